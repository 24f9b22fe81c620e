/- Walks: sgr.Text of no numbers, awake of vizardlaw13. -/
import Derived.Test.YtjfnmjgfbkcaaaaDoorSgrApply
import Derived.Test.YtjfnmjgfbkcaaaaDoorSgrTell
import Derived.Test.YtjfnmjgfbkcaaaaDoorSgrInts
import Derived.Test.YtjfnmjgfbkcaaaaDoorShelf
namespace Go.Proofs.YtjfnmjgfbkcaaaaDoor
open Go.RowKit

theorem text_nil (w : World) : Calls Tryd.prog 18 #[.slice none 0 0] w fun e w' => e = .returned (.string ⟨#[27, 91, 109]⟩) ∧ w' = w := by
  have HJ := Lib.hid (Tryd.strings_Join_none none 0 ⟨#[59]⟩ w)
  go_enter Tryd.func18, Tryd.ntmps18
  go_wp2
  go_loopw [3, 8] (fun v i wr => v = .slice none 0 0 ∧ i = .int .i64 0 ∧ wr = w) (fun _ _ _ => 0)
  case atStart => exact ⟨rfl, rfl, rfl⟩
  case round =>
    obtain ⟨rfl, rfl, rfl⟩ := hrel
    go_wp2_with fail
    refine HJ.out.mono ?_
    rintro e w1 ⟨rfl, rfl⟩
    go_wp2_with fail
    go_ret
    exact ⟨rfl, rfl⟩

theorem apply_of_own (a : Int) (A : Option Addr) (m c : Nat) (L : List Int) (hm : m ≤ 1000) (w : World) (hI : Ints w.heap.size w A m L) :
    Calls Tryd.prog 13 #[.int .i64 a, .slice A m c] w fun e W' => e = .returned (.int .i64 (applyN a L)) ∧ Below w.heap.size w W' := apply_any _ a A m c L hm w hI (Nat.le_refl _)

set_option maxRecDepth 100000 in
set_option maxHeartbeats 2000000 in
theorem awake_any (w : World) : Calls Tryd.prog 10 #[] w fun e w' => e = .returned (.bool true) ∧ Below w.heap.size w w' := by
  have HA := Lib.hid apply_of_own
  have HT := Lib.hid (tell_any 321 (by unfold Vz.MayP; decide))
  have HI := Lib.hid ints_any
  have HX := Lib.hid text_nil
  have EA : Hid (applyN 0 [1, 31] = 321) := by show _ = _; decide
  have ET : Hid (tellL 321 = [0, 1, 31, 40]) := by show _ = _; decide
  go_enter Tryd.func10, Tryd.ntmps10
  go_wp2_with fail
  refine (HA.out 0 _ 2 2 [1, 31] (by decide) _ (by have := Ints.new w 3 [1, 31] #[.int .i64 1, .int .i64 31] rfl; rwa [← World.size_alloc w (.cells #[.int .i64 1, .int .i64 31] 3)] at this)).mono ?_
  rintro e w1 ⟨rfl, hb1⟩
  rw [EA.out]
  have hb01 := ((Below.refl w.heap.size w).alloc (Nat.le_refl _) (.cells #[.int .i64 1, .int .i64 31] 3)).trans (hb1.mono (by simp))
  go_wp2_with fail
  refine (HT.out _).mono ?_
  rintro e w2 ⟨v, rfl, hown, hb2⟩
  rw [ET.out] at hown
  obtain ⟨A, c, rfl, hI2⟩ := Ints.of_own hown
  have hb02 := hb01.trans (hb2.mono hb01.size)
  have HO := Lib.hid hI2
  clear hown hI2
  go_wp2_with fail
  refine (HI.out (w2.heap.size + 1) A (some ⟨w2.heap.size, 0, none⟩) 4 4 c 4 [0, 1, 31, 40] [0, 1, 31, 40] _ ((HO.out.keep (fun p hp => World.cell?_of_block (Below.heap_alloc _ _ _ hp))).more (by omega)) (Ints.new w2 3 [0, 1, 31, 40] _ rfl) (by decide) (by decide)).mono ?_
  rintro e w3 ⟨rfl, q, rfl⟩
  go_wp2_with fail
  refine (HX.out _).mono ?_
  rintro e w4 ⟨rfl, rfl⟩
  go_wp2_with fail
  go_ret
  exact ⟨rfl, below_drewN (hb02.alloc hb02.size _) q⟩
end Go.Proofs.YtjfnmjgfbkcaaaaDoor
