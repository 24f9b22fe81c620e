/- attr.Keep. -/
import Derived.Test.YtdakiocgaihcnaaDoorKeeps
namespace Go.Proofs.YtdakiocgaihcnaaDoor
open Go.RowKit

theorem sumK_land (p : Int) : ∀ n, n < 16384 → sumK (bitsL p) n (bitsL p).length = n &&& (bitsL p).sum := fun n h => by
  have key : ∀ l : List Nat, Vz.all2 14 0 (fun n => sumK l n l.length == (n &&& l.sum)) = true → sumK l n l.length = n &&& l.sum := fun l hl => by
    have := Vz.all2_spec 14 0 _ hl n (Nat.zero_le _) (by omega)
    simpa using this
  rcases bitsL_cases p with h | h | h | h <;> rw [h] <;> exact key _ (by decide +kernel)
theorem addK_sum (p : Int) : addK (bitsL p) (bitsL p).length = (bitsL p).sum := by
  rcases bitsL_cases p with h | h | h | h <;> rw [h] <;> decide
theorem bits_sum_le (p : Int) : (bitsL p).sum ≤ 16383 := by
  rcases bitsL_cases p with h | h | h | h <;> rw [h] <;> decide

def keepI (p a : Int) : Int := if Vz.mayI a = true then ((a.toNat &&& (bitsL p).sum : Nat) : Int) else 0

theorem keep_no (p a : Int) (h2 : a < 9223372036854775808) (hm : Vz.mayI a = false) (w : World) :
    Calls Tryd.prog 19 #[.int .i64 p, .int .i64 a] w fun e w' => e = .returned (.int .i64 0) ∧ w = w' := by
  have HM := Lib.hid (may_no a h2 hm w)
  clear h2
  go_enter Tryd.func19, Tryd.ntmps19
  go_wp2_with (go_at_call 15; refine HM.out.mono ?_; rintro e w1 ⟨rfl, rfl⟩)
  go_ret
  exact ⟨rfl, rfl⟩
theorem keep_yes (p : Int) (n : Nat) (hm : Vz.mayI n = true) (w : World) :
    Calls Tryd.prog 19 #[.int .i64 p, .int .i64 n] w fun e w' => e = .returned (.int .i64 ((n &&& (bitsL p).sum : Nat) : Int)) ∧ w = w' := by
  have hn : n < 16384 := by have := Vz.mayI_lt hm; omega
  have HM := Lib.hid (may_yes n (by omega) hm w)
  have HK := Lib.hid (mask_any p w)
  have hb := bits_sum_le p
  have hand : bits .and .i64 (n : Int) ((bitsL p).sum : Nat) = ((n &&& (bitsL p).sum : Nat) : Int) := Vz.and64 n _ (by omega) (by omega)
  have HA := Lib.hid hand
  clear hand hm
  generalize (bitsL p).sum = m at hb HK HA
  go_enter Tryd.func19, Tryd.ntmps19
  go_wp2_with (first | (go_at_call 15; refine HM.out.mono ?_; rintro e w1 ⟨rfl, rfl⟩) | (go_at_call 18; refine HK.out.mono ?_; rintro e w1 ⟨rfl, rfl⟩))
  go_ret
  exact ⟨ret1 (by rw [← HA.out]; rfl), rfl⟩
end Go.Proofs.YtdakiocgaihcnaaDoor
