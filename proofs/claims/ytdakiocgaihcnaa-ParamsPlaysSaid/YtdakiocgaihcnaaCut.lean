/- Walks: strings.Cut at a separator of one byte: every text, without a bound. -/
import Derived.Test.YtdakiocgaihcnaaShelf
import Derived.Test.YtdakiocgaihcnaaPlain
import Derived.WalkKit
import Derived.Lib.Hide
import Derived.Lib.Strings
import Derived.Lib.Bytealg
import Derived.Lib.CutLaws
namespace Go.Proofs.Ytdakiocgaihcnaa
open Go.RowKit

theorem cutC_miss (c : UInt8) : ∀ l : List UInt8, Lib.indexByte l c = -1 → Vz.cutC c l = (l, [], false)
  | [], _ => rfl
  | x :: r, h => by
    unfold Lib.indexByte at h
    by_cases hx : (x == c) = true
    · simp [hx] at h
    · have hr : Lib.indexByte r c = -1 := by
        have := Lib.indexByte_ge r c
        simp only [hx, Bool.false_eq_true, if_false] at h
        by_cases e : Lib.indexByte r c = -1
        · exact e
        · simp [e] at h; omega
      simp only [Vz.cutC, hx, Bool.false_eq_true, if_false, cutC_miss c r hr]

theorem cutC_hit (c : UInt8) : ∀ (l : List UInt8) (i : Nat), Lib.indexByte l c = i → Vz.cutC c l = (l.take i, l.drop (i + 1), true) ∧ i < l.length
  | [], i, h => by simp [Lib.indexByte] at h
  | x :: r, i, h => by
    unfold Lib.indexByte at h
    by_cases hx : (x == c) = true
    · simp only [hx, if_true] at h
      obtain rfl : i = 0 := by omega
      simp [Vz.cutC, hx]
    · simp only [hx, Bool.false_eq_true, if_false] at h
      by_cases e : Lib.indexByte r c = -1
      · simp [e] at h
      · have hb : (Lib.indexByte r c == -1) = false := by simpa using e
        rw [hb] at h
        simp only [Bool.false_eq_true, if_false] at h
        obtain ⟨j, rfl⟩ : ∃ j, i = j + 1 := ⟨i - 1, by have := Lib.indexByte_ge r c; omega⟩
        obtain ⟨e1, e2⟩ := cutC_hit c r j (by omega)
        refine ⟨?_, by simp; omega⟩
        simp only [Vz.cutC, hx, Bool.false_eq_true, if_false, e1]
        simp

theorem ret_tup3 {a b c : Value} {a' b' c' : Value} (h : a = a') (h' : b = b') (h'' : c = c') : Ending.returned (.tuple #[a, b, c]) = .returned (.tuple #[a', b', c']) := by rw [h, h', h'']
theorem str_eq {s t : ByteArray} (h : s.data.toList = t.data.toList) : Value.string s = Value.string t := by
  obtain ⟨⟨l⟩⟩ := s; obtain ⟨⟨m⟩⟩ := t; simp at h; rw [h]

set_option maxHeartbeats 1000000 in
theorem sliteCut_any (s : ByteArray) (c : UInt8) (w : World) (hs : s.size ≤ maxLen) :
    Calls Try.prog 27 #[.string s, .string ⟨#[c]⟩] w fun e w' => e = .returned (.tuple #[.string ⟨(Vz.cutC c s.data.toList).1.toArray⟩, .string ⟨(Vz.cutC c s.data.toList).2.1.toArray⟩, .bool (Vz.cutC c s.data.toList).2.2]) ∧ ∃ n, w' = w.drewN n := by
  unfold maxLen at hs
  by_cases hix : Lib.indexByte s.data.toList c = -1
  · have HC := Lib.hid (cutC_miss c _ hix)
    have HX := Lib.hid hix
    clear hix
    go_enter Try.func27, Try.ntmps27
    go_wp2_with (go_at_call 28; refine (Try.stringslite_Index_one _ _ _).mono ?_; rintro e w' ⟨rfl, rfl⟩; rw [HX.out])
    go_ret3
    exact ⟨ret_tup3 (str_eq (by rw [HC.out])) (str_eq (by rw [HC.out])) (by rw [HC.out]; rfl), 0, rfl⟩
  · obtain ⟨i, hi⟩ : ∃ i : Nat, Lib.indexByte s.data.toList c = i := ⟨(Lib.indexByte s.data.toList c).toNat, by have := Lib.indexByte_ge s.data.toList c; omega⟩
    obtain ⟨hc, hl⟩ := cutC_hit c _ i hi
    have HC := Lib.hid hc
    have HX := Lib.hid hi
    have c2 : i + 1 ≤ s.size := by rw [Lib.size_eq]; omega
    have c1 : (0 : Int) ≤ ↑i := by omega
    have c3 : (↑i : Int) ≤ ↑s.size := by omega
    have c4 : (0 : Int) ≤ ↑i + 1 := by omega
    have c5 : (↑i + 1 : Int) ≤ ↑s.size := by omega
    clear hi hc hix hl
    go_enter Try.func27, Try.ntmps27
    go_wp2_with (go_at_call 28; refine (Try.stringslite_Index_one _ _ _).mono ?_; rintro e w' ⟨rfl, rfl⟩; rw [HX.out])
    go_region
    go_wp2
    go_ret3
    exact ⟨ret_tup3 (str_eq (by rw [HC.out, Lib.extract_data]; simp)) (str_eq (by rw [HC.out, Lib.extract_data]; exact List.take_of_length_le (by rw [Lib.size_eq]; simp))) (by rw [HC.out]; rfl), 1, rfl⟩

set_option maxHeartbeats 1000000 in
/-- strings.Cut at one byte. -/
theorem cut_any (s : ByteArray) (c : UInt8) (w : World) (hs : s.size ≤ maxLen) :
    Calls Try.prog 26 #[.string s, .string ⟨#[c]⟩] w fun e w' => e = .returned (.tuple #[.string ⟨(Vz.cutC c s.data.toList).1.toArray⟩, .string ⟨(Vz.cutC c s.data.toList).2.1.toArray⟩, .bool (Vz.cutC c s.data.toList).2.2]) ∧ ∃ n, w' = w.drewN n := by
  go_enter Try.func26, Try.ntmps26
  go_wp2_with (go_at_call 27; refine (sliteCut_any _ _ _ hs).mono ?_; rintro e w' ⟨rfl, n, rfl⟩)
  go_ret3
  exact ⟨rfl, n, rfl⟩

end Go.Proofs.Ytdakiocgaihcnaa
