/- Walks: sgr.Tell. -/
import Derived.Test.YtjfnmjgfbkcaaaaDoorSgrTab
import Derived.Maps.AppendAt
import Derived.Deep.AppendLies
import Derived.WalkSmall
import Derived.Laws.OwnMore
namespace Go.Proofs.YtjfnmjgfbkcaaaaDoor
open Go.RowKit

theorem infoInt : (Tryd.prog.info? 3).map (fun i => (i.zero, i.size, i.bytes)) = some (some (.int .i64 0), 1, 8) := by kernel_rfl
def keyAt (k : Nat) : Int := (onsL[k]?.getD (0, 0)).1
/-- The numbers by which attributes are told: the first k bits. -/
def tellK (n k : Nat) : List Int := match k with
  | 0 => [0]
  | k + 1 => if n / 2 ^ k % 2 = 1 then tellK n k ++ [keyAt k] else tellK n k
def tellL (n : Nat) : List Int := if n / 64 % 2 = 1 then tellK n 6 ++ [30 + ((n / 256 % 8 : Nat) : Int), 40 + ((n / 2048 : Nat) : Int)] else tellK n 6
theorem tellK_len (n k : Nat) : (tellK n k).length ≤ k + 1 := by
  induction k with
  | zero => exact Nat.le_refl _
  | succ k ih =>
    unfold tellK; split
    · simp; omega
    · omega
theorem tellL_len (n : Nat) : (tellL n).length ≤ 9 := by
  have := tellK_len n 6
  unfold tellL; split
  · simp; omega
  · omega
def ints2V (l : List Int) : List Value := l.map (Value.int .i64)

theorem ownsRow_keep {W W' : World} {base : Nat} {e : TypeId} {size : Nat} {v : Value} {k : Nat} {xs : List Value} (h : W.ownsRow base e size v k xs) (hb : Below W.heap.size W W') : W'.ownsRow base e size v k xs :=
  h.kept (row := none) ⟨hb.os, hb.tape, hb.output, hb.size, fun i hi _ => hb.block i hi⟩ (by cases v.ownBlock <;> simp)
theorem ownsRow_sl {W : World} {base : Nat} {e : TypeId} {size : Nat} {v : Value} {k : Nat} {xs : List Value} (h : W.ownsRow base e size v k xs) : ∃ a c, v = .slice a k c := by
  rcases h.2 with ⟨rfl, rfl⟩ | ⟨g, cap, _, rfl, _⟩
  · exact ⟨_, _, rfl⟩
  · exact ⟨_, _, rfl⟩
theorem ownsRow_bs {W : World} {base : Nat} {e : TypeId} {size : Nat} {v : Value} {k : Nat} {xs : List Value} (h : W.ownsRow base e size v k xs) {j : Nat} (e' : v.ownBlock = some j) : base ≤ j := by
  rcases h.2 with ⟨rfl, _⟩ | ⟨g, cap, cur, rfl, hb, _, _⟩
  · simp [Value.ownBlock] at e'
  · obtain rfl : g = j := by simpa [Value.ownBlock] using e'
    exact hb
/-- A row of another type is not what the slice owns. -/
theorem ownsRow_ne {W : World} {base : Nat} {e e' : TypeId} {size : Nat} {v : Value} {k : Nat} {xs : List Value} (h : W.ownsRow base e size v k xs) {b : Nat} {cs : Array Value} {fr : Nat × Nat} (hb : W.heap[b]? = some (.cells cs e' fr)) (hne : e ≠ e') : v.ownBlock ≠ some b := by
  rcases h.2 with ⟨rfl, _⟩ | ⟨g, cap, cur, rfl, _, hg, _⟩
  · simp [Value.ownBlock]
  · intro he
    obtain rfl : g = b := by simpa [Value.ownBlock] using he
    rw [hg] at hb
    cases hb
    exact hne rfl
theorem ons_cells {W : World} {b : Nat} {t : TypeId} {fr : Nat × Nat} (hg : W.heap[b]? = some (.cells (cellsL onsL) t fr)) (k : Nat) (hk : k < 6) :
    W.cell? ⟨b, k * 2, none⟩ = some (.int .i64 (keyAt k)) ∧ W.cell? ⟨b, k * 2 + 1, none⟩ = some (.int .i64 ((2 ^ k : Nat) : Int)) := by
  rw [cell_of_row _ _ _ _ _ _ hg, cell_of_row _ _ _ _ _ _ hg]
  obtain rfl | rfl | rfl | rfl | rfl | rfl : k = 0 ∨ k = 1 ∨ k = 2 ∨ k = 3 ∨ k = 4 ∨ k = 5 := by omega
  all_goals exact ⟨rfl, rfl⟩
theorem bit_test (n k : Nat) (hn : n < 16384) (hk : k < 6) : (bits .and .i64 (n : Int) ((2 ^ k : Nat) : Int) != 0) = decide (n / 2 ^ k % 2 = 1) := by
  have h2 : 2 ^ k < 9223372036854775808 := Nat.lt_of_lt_of_le (Nat.pow_lt_pow_right (by decide) hk) (by decide)
  rw [Vz.and_test n (2 ^ k) (by omega) h2]
  obtain ⟨⟨l1, l2, l4, l8⟩, l16, l32, _⟩ := Vz.land_bits n hn
  obtain rfl | rfl | rfl | rfl | rfl | rfl : k = 0 ∨ k = 1 ∨ k = 2 ∨ k = 3 ∨ k = 4 ∨ k = 5 := by omega
  · rw [show 2 ^ 0 = 1 from rfl, l1, Nat.div_one]; rfl
  · rw [show 2 ^ 1 = 2 from rfl, l2]; rfl
  · rw [show 2 ^ 2 = 4 from rfl, l4]; rfl
  · rw [show 2 ^ 3 = 8 from rfl, l8]; rfl
  · rw [show 2 ^ 4 = 16 from rfl, l16]; rfl
  · rw [show 2 ^ 5 = 32 from rfl, l32]; rfl

theorem cell_one_new2 (w : World) (o : Obj) (x : Value) (t : TypeId) : ∀ (j : Nat) (u : Value), [x][j]? = some u → ((w.alloc o).alloc (.cells #[x] t)).cell? ((⟨w.heap.size + 1, 0, none⟩ : Addr).add j) = some u := by
  have h := cell_one_new (w.alloc o) x t
  rwa [World.size_alloc] at h

theorem tell_no (a : Int) (hm : Vz.mayI a = false) (w : World) :
    Calls Tryd.prog 15 #[.int .i64 a] w fun e w' => e = .returned (.tuple #[.slice none 0 0, .int .i64 1]) ∧ w = w' := by
  have HM := Lib.hid (smay_no a hm w)
  go_enter Tryd.func15, Tryd.ntmps15
  go_wp2_with (go_at_call 12; refine HM.out.mono ?_; rintro e w1 ⟨rfl, rfl⟩)
  go_ret2
  exact ⟨rfl, rfl⟩

set_option maxRecDepth 100000 in
set_option maxHeartbeats 4000000 in
theorem tell_any (n : Nat) (hm : Vz.MayP n) (w : World) :
    Calls Tryd.prog 15 #[.int .i64 n] w fun e w' => ∃ v, e = .returned (.tuple #[v, .int .i64 0]) ∧ w'.ownsRow w.heap.size 3 1 v (tellL n).length (ints2V (tellL n)) ∧ Below w.heap.size w w' := by
  have hn := hm.1
  have HM := Lib.hid (smay_yes n hm w)
  obtain ⟨i0, hi, hz0, hz1, hz2⟩ := info_parts infoInt
  have HBT := Lib.hid (fun k hk => bit_test n k hn hk)
  have T6 := Lib.hid (t64_eq n hn)
  have hcb := Vz.col_bits n hn
  have e1 : bits .and .i64 (n : Int) 1792 = ((n / 256 % 8 * 256 : Nat) : Int) := by
    rw [show (1792 : Int) = ((1792 : Nat) : Int) from rfl, Vz.and64 n 1792 (by omega) (by decide), hcb.2.2.2.1]
  have e2 : bits .and .i64 (n : Int) 14336 = ((n / 2048 * 2048 : Nat) : Int) := by
    rw [show (14336 : Int) = ((14336 : Nat) : Int) from rfl, Vz.and64 n 14336 (by omega) (by decide), hcb.2.2.2.2]
  have E1 := Lib.hid e1
  have E2 := Lib.hid e2
  have HON := Lib.hid ons_row
  clear hm e1 e2 hcb
  go_enter Tryd.func15, Tryd.ntmps15
  go_wp2_with (first | (go_at_call 12; refine HM.out.mono ?_; rintro e w1 ⟨rfl, rfl⟩) | (go_at_call 27; refine (HON.out _).mono ?_; rintro e w1 ⟨rfl, rfl⟩))
  go_loopw [5, 16] (fun v i wr => ∃ k : Nat, k ≤ 6 ∧ i = .int .i64 k ∧ wr.ownsRow w.heap.size 3 1 v (tellK n k).length (ints2V (tellK n k)) ∧ wr.heap[w.heap.size + 1]? = some (.cells (cellsL onsL) 60 (0, 0)) ∧ Below w.heap.size w wr) (fun _ i _ => 6 - (intOf i).toNat)
  case atStart =>
    refine ⟨0, by omega, rfl, ?_, ?_, ((Below.refl _ w).alloc (Nat.le_refl _) _).alloc (by simp) _⟩
    · have h := World.ownsRow_lit (base := w.heap.size) (e := 3) (size := 1) w #[.int .i64 0] 1 (Nat.le_refl _) (by decide) rfl
      exact h.alloc _
    · have := row_new (w.alloc (.cells #[.int .i64 0] 3)) (.cells (cellsL onsL) 60)
      rwa [World.size_alloc] at this
  case round =>
    obtain ⟨k, hk, rfl, hown, hrow, hB⟩ := hrel
    have hkl := tellK_len n k
    by_cases hlt : k < 6
    · obtain ⟨c1, c2⟩ := ons_cells hrow k hlt
      have hbt := HBT.out k hlt
      by_cases hb : n / 2 ^ k % 2 = 1
      · rw [decide_eq_true hb] at hbt
        have hmx : (tellK n k).length + 1 ≤ maxLen := by unfold maxLen; omega
        have HS : Hid (tellK n (k + 1) = tellK n k ++ [keyAt k]) := by show _ = _; simp only [tellK, hb, if_true]
        have hbx := Lib.hid hb
        have HR := Lib.hid hrow
        clear hb hrow
        generalize hp : ((2 ^ k : Nat) : Int) = bk at c2 hbt
        generalize hq : keyAt k = kk at c1 HS
        clear hp hq
        go_wp2_with (at_builtin; refine wpList_append_own _ rfl _ _ 22 rfl w.heap.size 3 i0 (.int .i64 0) 1 8 Tryd.underlying22 hi hz0 hz1 hz2 rfl (by decide) _ _ _ rfl ((hown.alloc _).alloc _) ⟨wr.heap.size + 1, 0, none⟩ 1 1 [.int .i64 kk] rfl rfl (cell_one_new2 _ _ _ _) (by simp [Value.oneCell']) hmx (by omega) (by have := hB.size; simp; omega) ?_; intro v' w1 hown' hgrow _)
        have hlt1 := (Array.getElem?_eq_some_iff.1 HR.out).1
        have hr2 : ((wr.alloc (.cells #[.int .i64 kk, .int .i64 bk] 60)).alloc (.cells #[.int .i64 kk] 3)).heap[w.heap.size + 1]? = some (.cells (cellsL onsL) 60 (0, 0)) := (Below.heap_alloc _ _ _ (by simp; omega)).trans ((Below.heap_alloc _ _ _ (by omega)).trans HR.out)
        exact ⟨⟨k + 1, by omega, by go_num, by rw [HS.out]; simpa [ints2V] using hown', (hgrow.block _ (by simp; omega) (ownsRow_ne hown HR.out (by decide)).symm).trans hr2, ((hB.alloc hB.size _).alloc (by have := hB.size; simp; omega) _).grown hgrow (by have := hB.size; simp; omega) (fun j e => ownsRow_bs hown e)⟩, by simp [intOf]; omega⟩
      · rw [decide_eq_false hb] at hbt
        have HS : Hid (tellK n (k + 1) = tellK n k) := by show _ = _; simp only [tellK, hb, if_false]
        have hbx := Lib.hid hb
        have HR := Lib.hid hrow
        clear hb hrow
        generalize hp : ((2 ^ k : Nat) : Int) = bk at c2 hbt
        clear hp
        go_wp2
        exact ⟨⟨k + 1, by omega, by go_num, by rw [HS.out]; exact hown.alloc _, (Below.heap_alloc _ _ _ (by have := (Array.getElem?_eq_some_iff.1 HR.out).1; omega)).trans HR.out, hB.alloc hB.size _⟩, by simp [intOf]; omega⟩
    · obtain rfl : k = 6 := by omega
      have t6 := T6.out
      by_cases hc : n / 64 % 2 = 1
      · rw [decide_eq_false (p := n / 64 % 2 = 0) (by omega)] at t6
        have hmx : (tellK n 6).length + 2 ≤ maxLen := by unfold maxLen; omega
        have HS : Hid (tellL n = tellK n 6 ++ [30 + ((n / 256 % 8 : Nat) : Int), 40 + ((n / 2048 : Nat) : Int)]) := by show _ = _; unfold tellL; rw [if_pos hc]
        have h1 := E1.out
        have h2 := E2.out
        have b6 : (bits .and .i64 (n : Int) 64 != 0) = true := by unfold bne; rw [t6]; rfl
        have hc1 : n / 256 % 8 < 8 := Nat.mod_lt _ (by decide)
        have hc2 : n / 2048 < 8 := by omega
        generalize n / 256 % 8 = c1 at h1 HS hc1
        generalize n / 2048 = c2 at h2 HS hc2
        have q1 : ((c1 * 256 : Nat) : Int).tdiv 256 = c1 := by rw [Int.tdiv_eq_ediv_of_nonneg (by omega)]; omega
        have q2 : ((c2 * 2048 : Nat) : Int).tdiv 2048 = c2 := by rw [Int.tdiv_eq_ediv_of_nonneg (by omega)]; omega
        clear t6 hc HBT T6 E1 E2 hrow
        go_wp2_with (at_builtin; go_loud (refine wpList_append_own _ rfl _ _ 22 rfl w.heap.size 3 i0 (.int .i64 0) 1 8 Tryd.underlying22 hi hz0 hz1 hz2 rfl (by decide) _ _ _ rfl (hown.alloc _) ⟨wr.heap.size, 0, none⟩ 2 2 [.int .i64 (30 + (c1 : Int)), .int .i64 (40 + (c2 : Int))] rfl rfl (cell_two_new _ _ _ _) (by simp [Value.oneCell']) hmx (by omega) (by have := hB.size; simp; omega) ?_; intro v' w4 hown' hgrow _; obtain ⟨va, vc, rfl⟩ := ownsRow_sl hown'))
        have hB4 := (hB.alloc hB.size _).grown hgrow (by have := hB.size; simp; omega) (fun j e => ownsRow_bs hown e)
        go_ret2
        exact ⟨_, rfl, by rw [HS.out]; simpa [ints2V] using hown', hB4⟩
      · rw [decide_eq_true (p := n / 64 % 2 = 0) (by omega)] at t6
        have b6 : (bits .and .i64 (n : Int) 64 != 0) = false := by unfold bne; rw [t6]; rfl
        have HS : Hid (tellL n = tellK n 6) := by show _ = _; unfold tellL; rw [if_neg hc]
        obtain ⟨va, vc, rfl⟩ := ownsRow_sl hown
        clear t6 hc hkl HBT T6 E1 E2 hrow
        go_wp2
        go_ret2
        exact ⟨_, rfl, by rw [HS.out]; exact hown, hB⟩
end Go.Proofs.YtjfnmjgfbkcaaaaDoor
