import Derived.Test.YtncgigapgklhcaaGreatDoorHT

/- Plain: the highest bit of a byte does not count. -/
namespace Go.Proofs.YtncgigapgklhcaaGreatDoor
open Go.RowKit
set_option linter.unusedSimpArgs false
set_option linter.unusedVariables false

theorem high_fin : ∀ b : Fin 256, (UInt8.ofNat b.val ^^^ 128) % 128 = UInt8.ofNat b.val % 128 := by decide +kernel
theorem high_mod (b : UInt8) : (b ^^^ 128) % 128 = b % 128 := by
  have h := high_fin ⟨b.toNat, UInt8.toNat_lt b⟩
  have e : UInt8.ofNat b.toNat = b := by simp
  simp only at h
  rw [e] at h
  exact h
def highL (l : List UInt8) : List UInt8 := l.map fun b => b ^^^ 128
theorem feed_high (A : Ad) (l : List UInt8) : feedA A (highL l) = feedA A l := by
  induction l generalizing A with
  | nil => rfl
  | cons b l ih =>
    show feedA (takeA A ((b ^^^ 128) % 128)) (highL l) = feedA (takeA A (b % 128)) l
    rw [high_mod]
    exact ih _
theorem high_take (l : List UInt8) (k : Nat) (hk : k < l.length) : highL (l.take (k + 1)) = highL (l.take k) ++ [l[k] ^^^ 128] := by
  unfold highL
  rw [List.take_succ_eq_append_getElem hk, List.map_append]
  rfl
end Go.Proofs.YtncgigapgklhcaaGreatDoor
