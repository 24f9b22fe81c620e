/- More plain mathematics of the numbers of a text. -/
import Derived.Test.YtdakiocgaihcnaaPlain
namespace Vz
theorem numsOf_len : ∀ (ps : List ByteArray) (l : List Int), numsOf ps = some l → l.length = ps.length
  | [], l, h => by simp [numsOf] at h; simp [h]
  | p :: r, l, h => by
    simp only [numsOf] at h
    split at h
    · split at h
      · cases h
      · rename_i l' e
        have := numsOf_len r l' e
        cases h
        simp [this]
    · cases h
theorem numbers_len (s : List UInt8) : (numbers s).1.length ≤ s.length + 1 := by
  unfold numbers
  split
  · simp
  · rename_i l e
    have := numsOf_len _ _ e
    have := partsB_len s
    simp only
    omega
end Vz
