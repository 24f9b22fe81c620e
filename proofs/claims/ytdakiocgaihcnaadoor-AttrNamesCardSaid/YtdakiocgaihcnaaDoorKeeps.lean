/- Walks: attr.Mask, attr.Keep, vizardref03.Bit, Mask, Sum. -/
import Derived.Test.YtdakiocgaihcnaaDoorAttrRef
namespace Go.Proofs.YtdakiocgaihcnaaDoor
open Go.RowKit

def bitsL (p : Int) : List Nat := if p = 2 then [1, 4, 8, 16, 32, 64, 256, 512, 1024, 2048, 4096, 8192] else if p = 3 then [2, 4, 8, 16, 32] else if p = 4 then [4, 8, 16, 32] else []
def intsL (p : Int) : List Int := (bitsL p).map fun (x : Nat) => (x : Int)

theorem rbit_any (n x : Nat) (hx : 0 < x) (hx2 : x < 16384) (hn : n < 16384) (w : World) :
    Calls Tryd.prog 25 #[.int .i64 n, .int .i64 x] w fun e w' => e = .returned (.bool (decide (n / x % 2 = 1))) ∧ w = w' := by
  have hle : n / x ≤ n := Nat.div_le_self _ _
  go_enter Tryd.func25, Tryd.ntmps25
  go_wp2
  go_ret
  refine ⟨ret1 ?_, rfl⟩
  have h1 : (n : Int) / x = ((n / x : Nat) : Int) := by simp
  show Value.bool ((wrap64 (↑n / ↑x)).tmod 2 == 1) = _
  rw [h1]
  generalize n / x = q at hle
  rw [IntWalk.wrap64_in _ (by omega), Int.tmod_eq_emod_of_nonneg (by omega)]
  congr 1
  rw [Bool.eq_iff_iff]
  simp
  omega

theorem rmask_any (p : Int) (w : World) :
    Calls Tryd.prog 16 #[.int .i64 p] w fun e w' => ∃ A c, e = .returned (.slice A (bitsL p).length c) ∧ Ints w'.heap.size w' A (bitsL p).length (intsL p) ∧ Below w.heap.size w w' := by
  by_cases h2 : p = 2
  · subst h2
    go_enter Tryd.func16, Tryd.ntmps16
    go_wp2
    go_ret
    exact ⟨_, _, rfl, by rw [World.size_alloc]; exact Ints.new w _ (intsL 2) _ rfl, (Below.refl _ _).alloc (Nat.le_refl _) _⟩
  · by_cases h3 : p = 3
    · subst h3
      clear h2
      go_enter Tryd.func16, Tryd.ntmps16
      go_wp2
      go_ret
      exact ⟨_, _, rfl, by rw [World.size_alloc]; exact Ints.new w _ (intsL 3) _ rfl, (Below.refl _ _).alloc (Nat.le_refl _) _⟩
    · by_cases h4 : p = 4
      · subst h4
        clear h2 h3
        go_enter Tryd.func16, Tryd.ntmps16
        go_wp2
        go_ret
        exact ⟨_, _, rfl, by rw [World.size_alloc]; exact Ints.new w _ (intsL 4) _ rfl, (Below.refl _ _).alloc (Nat.le_refl _) _⟩
      · have HB : Hid (bitsL p = []) := by show _ = _; unfold bitsL; rw [if_neg h2, if_neg h3, if_neg h4]
        go_enter Tryd.func16, Tryd.ntmps16
        go_wp2
        go_ret
        refine ⟨none, 0, ret1 (by rw [HB.out]; rfl), ?_, Below.refl _ _⟩
        unfold intsL
        rw [HB.out]
        exact ⟨rfl, fun h => absurd h (by decide)⟩

/-- The sum of the first k bits of a list that a number has. -/
def sumK (l : List Nat) (n k : Nat) : Nat := match k with
  | 0 => 0
  | k + 1 => if n / l[k]?.getD 0 % 2 = 1 then sumK l n k + l[k]?.getD 0 else sumK l n k
def addK (l : List Nat) (k : Nat) : Nat := match k with
  | 0 => 0
  | k + 1 => addK l k + l[k]?.getD 0

theorem bitsL_cases (p : Int) : bitsL p = [1, 4, 8, 16, 32, 64, 256, 512, 1024, 2048, 4096, 8192] ∨ bitsL p = [2, 4, 8, 16, 32] ∨ bitsL p = [4, 8, 16, 32] ∨ bitsL p = [] := by
  unfold bitsL
  split
  · exact Or.inl rfl
  · split
    · exact Or.inr (Or.inl rfl)
    · split
      · exact Or.inr (Or.inr (Or.inl rfl))
      · exact Or.inr (Or.inr (Or.inr rfl))
theorem bitsL_at (p : Int) (k : Nat) (hk : k < (bitsL p).length) : 0 < (bitsL p)[k]?.getD 0 ∧ (bitsL p)[k]?.getD 0 < 16384 := by
  have : ∀ x ∈ bitsL p, 0 < x ∧ x < 16384 := by rcases bitsL_cases p with h | h | h | h <;> rw [h] <;> decide
  rw [List.getElem?_eq_getElem hk]
  exact this _ (List.getElem_mem hk)
theorem intsL_at (p : Int) (k : Nat) : (intsL p)[k]?.getD 0 = (((bitsL p)[k]?.getD 0 : Nat) : Int) := by
  unfold intsL
  rw [List.getElem?_map]
  cases (bitsL p)[k]? <;> rfl
theorem sumK_le (l : List Nat) (n k : Nat) : sumK l n k ≤ addK l k := by
  induction k with
  | zero => exact Nat.le_refl _
  | succ k ih => simp only [sumK, addK]; split <;> omega
theorem addK_bits (p : Int) (k : Nat) (hk : k ≤ (bitsL p).length) : addK (bitsL p) k ≤ 16384 := by
  have hlen : (bitsL p).length ≤ 12 := by rcases bitsL_cases p with h | h | h | h <;> rw [h] <;> decide
  have key : ∀ l : List Nat, (∀ k, k < 13 → addK l k ≤ 16384) → addK l k ≤ 16384 := fun l h => h k (by omega)
  rcases bitsL_cases p with h | h | h | h <;> rw [h] <;> exact key _ (by decide)
theorem bitsL_len (p : Int) : (bitsL p).length ≤ 12 := by
  rcases bitsL_cases p with h | h | h | h <;> rw [h] <;> decide

set_option maxHeartbeats 1000000 in
theorem rsum_any (B : Nat) (A : Option Addr) (c : Nat) (p : Int) (n : Nat) (hn : n < 16384) (w : World) (h : Ints B w A (bitsL p).length (intsL p)) :
    Calls Tryd.prog 17 #[.slice A (bitsL p).length c, .int .i64 n] w fun e w' => e = .returned (.int .i64 (sumK (bitsL p) n (bitsL p).length : Nat)) ∧ Below w.heap.size w w' := by
  have hlen := bitsL_len p
  go_enter Tryd.func17, Tryd.ntmps17
  go_wp2
  go_loopw [5, 6] (fun s i wr => ∃ k q : Nat, k ≤ (bitsL p).length ∧ i = .int .i64 k ∧ s = .int .i64 (sumK (bitsL p) n k : Nat) ∧ wr = w.drewN q) (fun _ i _ => (bitsL p).length - (intOf i).toNat)
  case atStart => exact ⟨0, 0, Nat.zero_le _, rfl, rfl, rfl⟩
  case round =>
    obtain ⟨k, q, hk, rfl, rfl, rfl⟩ := hrel
    have hle := Nat.le_trans (sumK_le (bitsL p) n k) (addK_bits p k hk)
    by_cases hlt : k < (bitsL p).length
    · obtain ⟨b, o, rfl, hc⟩ := h.at_ hlt
      obtain ⟨hx1, hx2⟩ := bitsL_at p k hlt
      rw [intsL_at] at hc
      have HS : Hid (sumK (bitsL p) n (k + 1) = if n / (bitsL p)[k]?.getD 0 % 2 = 1 then sumK (bitsL p) n k + (bitsL p)[k]?.getD 0 else sumK (bitsL p) n k) := rfl
      have HN : Hid (Ints B w (some ⟨b, o, none⟩) (bitsL p).length (intsL p)) := h
      clear h
      generalize hx : (bitsL p)[k]?.getD 0 = x at hc hx1 hx2 HS
      generalize hs : sumK (bitsL p) n k = S at hle HS
      have HX := Lib.hid hx
      have HSS := Lib.hid hs
      clear hx hs
      have HB := Lib.hid (fun W => rbit_any n x hx1 hx2 hn W)
      by_cases hb : n / x % 2 = 1
      · have HD := Lib.hid hb
        rw [decide_eq_true hb] at HB
        clear hb
        go_wp2_with (first | (go_at_call 25; refine (HB.out _).mono ?_; rintro e w1 ⟨rfl, rfl⟩))
        exact ⟨⟨k + 1, q, by omega, by go_num, by rw [HS.out, if_pos HD.out]; go_num, rfl⟩, by simp [intOf]; omega⟩
      · have HD := Lib.hid hb
        rw [decide_eq_false hb] at HB
        clear hb
        go_wp2_with (first | (go_at_call 25; refine (HB.out _).mono ?_; rintro e w1 ⟨rfl, rfl⟩))
        exact ⟨⟨k + 1, q, by omega, by go_num, by rw [HS.out, if_neg HD.out], rfl⟩, by simp [intOf]; omega⟩
    · obtain rfl : k = (bitsL p).length := by omega
      go_wp2
      go_ret
      exact ⟨rfl, below_drewN' q⟩

theorem mask_any (p : Int) (w : World) :
    Calls Tryd.prog 18 #[.int .i64 p] w fun e w' => e = .returned (.int .i64 ((bitsL p).sum : Nat)) ∧ w = w' := by
  by_cases h2 : p = 2
  · subst h2
    go_enter Tryd.func18, Tryd.ntmps18
    go_wp2
    go_ret
    exact ⟨rfl, rfl⟩
  · by_cases h3 : p = 3
    · subst h3
      clear h2
      go_enter Tryd.func18, Tryd.ntmps18
      go_wp2
      go_ret
      exact ⟨rfl, rfl⟩
    · by_cases h4 : p = 4
      · subst h4
        clear h2 h3
        go_enter Tryd.func18, Tryd.ntmps18
        go_wp2
        go_ret
        exact ⟨rfl, rfl⟩
      · have HB : Hid (bitsL p = []) := by show _ = _; unfold bitsL; rw [if_neg h2, if_neg h3, if_neg h4]
        go_enter Tryd.func18, Tryd.ntmps18
        go_wp2
        go_ret
        exact ⟨ret1 (by rw [HB.out]; rfl), rfl⟩
end Go.Proofs.YtdakiocgaihcnaaDoor
