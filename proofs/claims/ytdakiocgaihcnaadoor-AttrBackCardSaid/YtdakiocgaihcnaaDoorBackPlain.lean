/- Plain: what AttrBack asks of Keep, Colours and Paint. -/
import Derived.Test.YtdakiocgaihcnaaDoorKeepsB
import Derived.Test.YtdakiocgaihcnaaDoorLawApart
namespace Vz
theorem col_range (a : Int) (hm : mayI a = true) : 0 ≤ (coloursI a).1 ∧ (coloursI a).1 ≤ 7 ∧ 0 ≤ (coloursI a).2 ∧ (coloursI a).2 ≤ 7 ∧ (a / 32 % 2 = 1 → (coloursI a).1 = (coloursI a).2) := by
  rw [coloursI_may hm]
  have h1 : 0 ≤ a / 256 % 8 ∧ a / 256 % 8 ≤ 7 := by omega
  have h2 : 0 ≤ a / 2048 % 8 ∧ a / 2048 % 8 ≤ 7 := by omega
  generalize a / 256 % 8 = x at h1
  generalize a / 2048 % 8 = y at h2
  cases h64 : (a / 64 % 2 == 1) <;> cases h16 : (a / 16 % 2 == 1) <;> cases h32 : (a / 32 % 2 == 1) <;> simp at h32 <;> simp [col3, h32] <;> omega
theorem back_paint (n : Nat) (f b : Int) (h1 : f ≤ 7) (h2 : b ≤ 7) :
    ∃ c : Nat, paintI n f b = c ∧ c < 16384 ∧ mayI c = true ∧ (c : Int) % 64 = (n : Int) % 64 ∧ paintI c (-1) (-1) = c := by
  have a1 := pickF_lo n f
  have a2 := pickF_hi n f h1
  have a3 := pickB_lo n b
  have a4 := pickB_hi n b h2
  have e : paintI n f b = (n : Int) % 64 + 64 + 256 * pickF n f + 2048 * pickB n b := rfl
  generalize pickF n f = F at a1 a2 e
  generalize pickB n b = B at a3 a4 e
  have hk : ((n % 64 : Nat) : Int) = (n : Int) % 64 := by omega
  obtain ⟨c, hc⟩ : ∃ c : Nat, paintI n f b = c := ⟨(paintI n f b).toNat, by omega⟩
  rw [hc] at e
  refine ⟨c, hc, by omega, ?_, by omega, ?_⟩
  · rw [e, ← hk]; exact paint_may_ok _ _ _ (by omega) a1 a2 a3 a4
  · have b64 : ((c : Int) / 64 % 2 == 1) = true := by simp; omega
    unfold paintI pickF pickB
    rw [if_neg (show ¬ (0 : Int) ≤ -1 by decide), if_neg (show ¬ (0 : Int) ≤ -1 by decide), b64, if_pos rfl, if_pos rfl]
    omega
end Vz
namespace Go.Proofs.YtdakiocgaihcnaaDoor
open Go.RowKit
theorem keep_may (p : Int) (n : Nat) (hm : Vz.mayI n = true) : Vz.mayI ((n &&& (bitsL p).sum : Nat) : Int) = true := by
  rw [Vz.mayI_nat] at hm ⊢
  simp only [Bool.and_eq_true, decide_eq_true_eq] at hm ⊢
  refine ⟨Nat.lt_of_le_of_lt Nat.and_le_left hm.1, ?_⟩
  have key : ∀ M : Nat, Vz.all2 14 0 (fun n => !Vz.mayN n || Vz.mayN (n &&& M)) = true → Vz.mayN (n &&& M) = true := fun M hM => by
    have := Vz.all2_spec 14 0 _ hM n (Nat.zero_le _) (by simpa using hm.1)
    rw [hm.2] at this
    simpa using this
  rcases bitsL_cases p with h | h | h | h <;> rw [h] <;> exact key _ (by decide +kernel)
end Go.Proofs.YtdakiocgaihcnaaDoor
