/- Walks: line of scripts, Line of vizardref23, whole. -/
import Derived.Test.YtfkbgnonkgaobaaDoorScrFieldsB
import Derived.Test.YtfkbgnonkgaobaaDoorScrFieldsC
import Derived.Test.YtfkbgnonkgaobaaDoorScrCheckC
namespace Go.Proofs.YtfkbgnonkgaobaaDoor
open Go.RowKit
set_option linter.unusedSimpArgs false
set_option linter.unusedVariables false

theorem small_nat {n m : Int} (h : Vz.small n m = true) : ∃ k : Nat, n = k ∧ (k : Int) ≤ m := by
  unfold Vz.small at h
  simp at h
  obtain ⟨k, rfl⟩ := Int.eq_ofNat_of_zero_le h.1
  exact ⟨k, rfl, h.2⟩
theorem small_more {n m : Int} (h : Vz.small n m = true) (hm : m ≤ 9999) : Vz.small n 9999 = true := by
  unfold Vz.small at h ⊢
  simp at h ⊢
  omega

theorem fields_any (x : Vz.Stp) (h : x.right = true) (hT : x.text.length ≤ 1000) (w : World) (ht : PowTab w) :
    Calls Tryd.prog 33 #[stpV x] w fun e w' => ∃ v, e = .returned v ∧ w'.ownsRow (w.heap.size + 1) 9 1 v x.words.length (strsV x.words) ∧ Below w.heap.size w w' := by
  have hr := (Vz.Stp.right_iff x).1 h
  obtain ⟨d, t, k, c, s, l, r, o, z⟩ := x
  obtain ⟨hd, -, ⟨hk, hc⟩, ⟨hrr, hoo⟩, hz⟩ := hr
  simp only at hd hk hc hrr hoo hz hT
  clear h
  obtain rfl | rfl | rfl | rfl | rfl | rfl : d = 1 ∨ d = 2 ∨ d = 3 ∨ d = 4 ∨ d = 5 ∨ d = 6 := by omega
  · by_cases he : t = []
    · subst he
      exact fields_1e ⟨#[]⟩ k c s l r o z w ht (by rw [ByteArray.toList_eq]; rfl)
    · have hw : (Vz.Stp.words ⟨1, t, k, c, s, l, r, o, z⟩) = [[102, 101, 101, 100], Vz.hexL t] := by unfold Vz.Stp.words; simp [he]
      rw [hw]
      have := fields_1 ⟨t.toArray⟩ k c s l r o z w ht (by rw [toList_mk]; cases t <;> simp_all) (by show t.toArray.size ≤ 1000; simpa using hT)
      rw [show (⟨t.toArray⟩ : ByteArray).data.toList = t by simp] at this
      exact this
  · exact fields_2 _ k c s l r o z w ht (by intro x hx; simp at hx; rcases hx with rfl | rfl; exact small_more hk (by decide); exact small_more hc (by decide))
  · exact fields_3 _ k c s l r o z w ht
  · exact fields_4 _ k c s l r o z w ht
  · exact fields_5 _ k c s l r o z w ht (by intro x hx; simp at hx; rcases hx with rfl | rfl; exact hrr; exact hoo)
  · exact fields_6 _ k c s l r o z w ht (by intro x hx; simp at hx; subst hx; exact small_more hz (by decide))

theorem join_words (w : World) (base : Nat) (v : Value) (l : List (List UInt8)) (hown : w.ownsRow base 9 1 v l.length (strsV l)) (hne : 0 < l.length) (hn : l.length ≤ 1000) (hj : (Lib.join l [32]).length ≤ 100000) :
    Calls Tryd.prog 32 #[v, .string ⟨#[32]⟩] w fun e w' => e = .returned (.string ⟨(Lib.join l [32]).toArray⟩) ∧ Below w.heap.size w w' := by
  rcases hown.2 with ⟨_, h0⟩ | ⟨g, cap, cur, rfl, _, hg, hcap, _⟩
  · omega
  have hlt : g < w.heap.size := (Array.getElem?_eq_some_iff.1 hg).1
  have hd : ((l.map fun x => (⟨x.toArray⟩ : ByteArray)).map (·.data.toList)) = l := by
    rw [List.map_map]
    have : ((fun x : ByteArray => x.data.toList) ∘ fun x : List UInt8 => (⟨x.toArray⟩ : ByteArray)) = id := by funext x; simp
    rw [this, List.map_id]
  have h := Tryd.strings_Join g 0 cap (l.map fun x => ⟨x.toArray⟩) ⟨#[32]⟩ w (fun j x hx => by
    have hc := hown.cells (g := g) rfl j (.string x) (by
      simp only [strsV, List.getElem?_map, Option.map_eq_some_iff] at hx ⊢
      obtain ⟨y, h1, h2⟩ := hx
      exact ⟨y, h1, by rw [h2]⟩)
    rw [← hc]
    congr 1
    unfold Addr.add
    split <;> simp_all) hlt (by rw [List.length_map]; omega) (by rw [List.length_map]; exact hcap) (by rw [hd]; show (Lib.join l [32]).length ≤ _; omega)
  rw [List.length_map, hd] at h
  exact h

set_option maxHeartbeats 1000000 in
theorem line_any (x : Vz.Stp) (h : x.right = true) (hT : x.text.length ≤ 1000) (w : World) (ht : PowTab w) :
    Calls Tryd.prog 22 #[stpV x] w fun e w' => e = .returned (.string ⟨x.line.toArray⟩) ∧ Below w.heap.size w w' := by
  have hlw := Vz.Stp.line_words x h
  have hll := Vz.Stp.line_len x h
  have hwl : 0 < x.words.length ∧ x.words.length ≤ 100 := by
    unfold Vz.Stp.words
    constructor
    · repeat' split
      all_goals simp
    · repeat' split
      all_goals simp
  have hb1 : Below w.heap.size w (w.alloc (.cells #[.int .i64 x.d, .string ⟨x.text.toArray⟩, .int .i64 x.kind, .int .i64 x.code, .bool x.shift, .bool x.ctrl, .int .i64 x.rows, .int .i64 x.cols, .int .i64 x.to] 33)) := (Below.refl _ _).alloc (Nat.le_refl _) _
  have HB1 := Lib.hid hb1
  have HF := Lib.hid (fields_any x h hT _ (ht.below hb1))
  have HJ := Lib.hid (fun W base v (ho : W.ownsRow base 9 1 v x.words.length (strsV x.words)) => join_words W base v x.words ho hwl.1 (by omega) (by have := congrArg List.length hlw; simp at this; omega))
  have hS : (⟨(Lib.join x.words [32]).toArray⟩ : ByteArray).size ≤ 3000 := by
    show (Lib.join x.words [32]).toArray.size ≤ 3000
    have := congrArg List.length hlw
    simp at this ⊢
    omega
  have HL : Hid (Value.string ((⟨(Lib.join x.words [32]).toArray⟩ : ByteArray) ++ ⟨#[10]⟩) = .string ⟨x.line.toArray⟩) := by
    show _ = _
    congr 1
    apply ByteArray.ext
    rw [ByteArray.data_append, ← hlw]
    simp
  generalize (⟨(Lib.join x.words [32]).toArray⟩ : ByteArray) = S at HJ hS HL
  clear hlw hll hwl hb1 ht h hT
  unfold stpV at HF ⊢
  go_enter Tryd.func22, Tryd.ntmps22
  go_wp2_with fail
  refine HF.out.mono ?_
  rintro e w1 ⟨v, rfl, hown, hb⟩
  have HO := Lib.hid hown
  clear hown
  go_wp2_with fail
  refine (HJ.out _ _ _ HO.out).mono ?_
  rintro e w2 ⟨rfl, hb2⟩
  go_wp2_with fail
  go_ret
  exact ⟨ret1 HL.out, below_join (below_join HB1.out hb) hb2⟩

theorem refline_any (x : Vz.Stp) (h : x.right = true) (hT : x.text.length ≤ 1000) (w : World) :
    Calls Tryd.prog 12 #[stpV x] w fun e w' => e = .returned (.string ⟨x.line.toArray⟩) ∧ Below w.heap.size w w' := by
  have hr := (Vz.Stp.right_iff x).1 h
  obtain ⟨d, t, k, c, s, l, r, o, z⟩ := x
  obtain ⟨hd, -, ⟨hk, hc⟩, ⟨hrr, hoo⟩, hz⟩ := hr
  simp only at hd hk hc hrr hoo hz hT
  clear h
  obtain ⟨k, rfl, hk⟩ := small_nat hk
  obtain ⟨c, rfl, hc⟩ := small_nat hc
  obtain ⟨r, rfl, hrr⟩ := small_nat hrr
  obtain ⟨o, rfl, hoo⟩ := small_nat hoo
  obtain ⟨z, rfl, hz⟩ := small_nat hz
  have fin : ∀ (B : ByteArray) (X : Vz.Stp), B.data.toList = X.line → ∀ (e : Ending) (w' : World), (e = .returned (.string B) ∧ Below w.heap.size w w') → (e = .returned (.string ⟨X.line.toArray⟩) ∧ Below w.heap.size w w') := by
    rintro B X hB e w' ⟨rfl, hb⟩
    refine ⟨?_, hb⟩
    rw [← hB]
  obtain rfl | rfl | rfl | rfl | rfl | rfl : d = 1 ∨ d = 2 ∨ d = 3 ∨ d = 4 ∨ d = 5 ∨ d = 6 := by omega
  · refine (line_1 ⟨t.toArray⟩ k c s l r o z (by show t.toArray.size ≤ 1000; simpa using hT) w).mono (fin _ _ ?_)
    have hs : (⟨t.toArray⟩ : ByteArray).size = t.length := by show t.toArray.size = _; simp
    rw [ByteArray.data_append, hs]
    unfold feedB Vz.Stp.line
    by_cases he : t = []
    · subst he; simp
    · have h0 : t.length ≠ 0 := by simpa using he
      simp [he]
  · refine (line_2 ⟨t.toArray⟩ k c s l r o z (by omega) (by omega) w).mono (fin _ _ ?_)
    unfold Vz.Stp.line dgB
    cases s <;> cases l <;> simp [ByteArray.data_append]
  · exact (line_34 3 ⟨t.toArray⟩ k c s l r o z (.inl rfl) w).mono (fin _ _ rfl)
  · exact (line_34 4 ⟨t.toArray⟩ k c s l r o z (.inr rfl) w).mono (fin _ _ rfl)
  · refine (line_5 ⟨t.toArray⟩ k c s l r o z (by omega) (by omega) w).mono (fin _ _ ?_)
    unfold Vz.Stp.line dgB
    simp [ByteArray.data_append]
  · refine (line_6 ⟨t.toArray⟩ k c s l r o z (by omega) w).mono (fin _ _ ?_)
    unfold Vz.Stp.line dgB
    simp [ByteArray.data_append]
end Go.Proofs.YtfkbgnonkgaobaaDoor
