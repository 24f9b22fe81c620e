/- Walks: awake of vizardlaw10: the chapter's example stands. -/
import Derived.Test.YtdakiocgaihcnaaInts
namespace Go.Proofs.Ytdakiocgaihcnaa
open Go.RowKit

theorem ex_numbers : Vz.numbers [49, 59, 59, 48, 48, 48, 52, 50, 59, 55, 55, 55, 55, 55] = ([1, -1, 42, 9999], true) := by decide +kernel

set_option maxHeartbeats 1000000 in
theorem awake_any (w : World) : Calls Try.prog 9 #[] w fun e w' => e = .returned (.bool true) ∧ Below w.heap.size w w' := by
  have hN := numbers_any ⟨#[49, 59, 59, 48, 48, 48, 52, 50, 59, 55, 55, 55, 55, 55]⟩ (by decide) w
  rw [ex_numbers] at hN
  go_enter Try.func9, Try.ntmps9
  go_wp2_with fail
  refine hN.mono ?_
  rintro e w1 ⟨v, rfl, hown, hB1⟩
  obtain ⟨A, c, rfl, hI⟩ := Ints.of_own hown
  clear hN hown
  have hI4 : Ints w1.heap.size w1 A 4 [1, -1, 42, 9999] := hI
  clear hI
  have hb2 : Below w1.heap.size w1 (w1.alloc (.cells #[.int .i64 1, .int .i64 (-1), .int .i64 42, .int .i64 9999] 3)) := (Below.refl _ _).alloc (Nat.le_refl _) _
  have hI5 := (hI4.below hb2 (Nat.le_refl _)).more (Nat.le_succ _)
  have hnew := Ints.new w1 3 [1, -1, 42, 9999] #[.int .i64 1, .int .i64 (-1), .int .i64 42, .int .i64 9999] rfl
  go_wp2_with fail
  refine (ints_any _ _ _ 4 4 _ _ _ _ _ hI5 hnew (by omega) (by omega)).mono ?_
  rintro e w2 ⟨rfl, q, rfl⟩
  have hI6 := hI5.drewN q
  rw [decide_eq_true (p := ([1, -1, 42, 9999] : List Int) = [1, -1, 42, 9999]) rfl]
  clear hI4 hI5 hnew
  go_wp2_with fail
  refine (or_any _ _ 4 _ _ 1 5 _ hI6 (by omega)).mono ?_
  rintro e w2 ⟨rfl, rfl⟩
  rw [show orL [1, -1, 42, 9999] 1 5 = 5 from by decide]
  go_wp2_with fail
  refine (or_any _ _ 4 _ _ 2 5 _ hI6 (by omega)).mono ?_
  rintro e w2 ⟨rfl, rfl⟩
  rw [show orL [1, -1, 42, 9999] 2 5 = 42 from by decide]
  go_wp2_with fail
  go_ret
  exact ⟨rfl, below_drewN (below_join hB1 hb2) q⟩
end Go.Proofs.Ytdakiocgaihcnaa
