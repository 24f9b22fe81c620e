/- The walk of ParamsNil. -/
import Derived.Test.YtdakiocgaihcnaaAwakeP
namespace Go.Proofs.Ytdakiocgaihcnaa
open Go.RowKit

set_option maxHeartbeats 1000000 in
theorem law_nil (x : Int) (_hx : (Lit.int .u8 x).wf = true) (w : World) : Calls Try.prog 7 #[.int .u8 x] w fun e w' => e = .returned (.bool true) ∧ Below w.heap.size w w' := by
  have hN := numbers_any ByteArray.empty (by decide) w
  rw [show Vz.numbers ByteArray.empty.data.toList = ([], true) from by decide +kernel] at hN
  go_enter Try.func7, Try.ntmps7
  go_wp2_with (first | (go_at_call 10; refine hN.mono ?_; rintro e w1 ⟨v, rfl, hown, hB1⟩; obtain ⟨A, c, rfl⟩ := (⟨_, _, (Ints.of_own hown).choose_spec.choose_spec.1⟩ : ∃ A c, v = .slice A 0 c)) | (go_at_call 9; refine (awake_any _).mono ?_; rintro e w2 ⟨rfl, hB2⟩) | (go_end0; simp only []; go_at_K) | go_in)
  go_ret
  exact ⟨rfl, below_join hB1 hB2⟩
end Go.Proofs.Ytdakiocgaihcnaa
