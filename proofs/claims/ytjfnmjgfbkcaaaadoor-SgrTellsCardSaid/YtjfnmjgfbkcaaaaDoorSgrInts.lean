/- Walks: ints of vizardlaw13. -/
import Derived.Test.YtjfnmjgfbkcaaaaDoorProg
import Derived.Test.YtjfnmjgfbkcaaaaDoorWords
import Derived.WalkKit
import Derived.Lib.Hide
import Derived.BigQuiet
import Derived.Deep.QuietTactic
namespace Go.Proofs.YtjfnmjgfbkcaaaaDoor
open Go.RowKit

set_option maxHeartbeats 1000000 in
theorem ints_any (B : Nat) (A A' : Option Addr) (n n' c c' : Nat) (l l' : List Int) (w : World) (h : Ints B w A n l) (h' : Ints B w A' n' l') (hn : n ≤ 4611686018427387904) (hn' : n' ≤ 4611686018427387904) :
    Calls Tryd.prog 16 #[.slice A n c, .slice A' n' c'] w fun e w' => e = .returned (.bool (decide (l = l'))) ∧ ∃ q, w' = w.drewN q := by
  by_cases hl : n = n'
  · subst hl
    go_enter Tryd.func16, Tryd.ntmps16
    go_wp2
    go_loopw [5] (fun i wr => ∃ k q : Nat, k ≤ n ∧ i = .int .i64 k ∧ (∀ j, j < k → l[j]?.getD 0 = l'[j]?.getD 0) ∧ wr = w.drewN q) (fun i _ => n - (intOf i).toNat)
    case atStart => exact ⟨0, 0, Nat.zero_le _, rfl, fun j hj => absurd hj (by omega), rfl⟩
    case round =>
      obtain ⟨k, q, hk, rfl, hj, rfl⟩ := hrel
      have HJ := Lib.hid hj
      clear hj
      by_cases hlt : k < n
      · obtain ⟨b, o, rfl, hc⟩ := h.at_ hlt
        obtain ⟨b', o', rfl, hc'⟩ := h'.at_ hlt
        have H := Lib.hid h
        have H' := Lib.hid h'
        clear h h'
        by_cases he : l[k]?.getD 0 = l'[k]?.getD 0
        · have hb : (l[k]?.getD 0 != l'[k]?.getD 0) = false := by simp [he]
          have HE := Lib.hid he
          clear he
          go_wp2
          go_quiet (fail)
          go_wp2
          exact ⟨⟨k + 1, q + nq, by omega, by go_num, fun j hj => by
            rcases Nat.lt_succ_iff_lt_or_eq.1 hj with h | h
            · exact HJ.out j h
            · rw [h]; exact HE.out, rfl⟩, by simp [intOf]; omega⟩
        · have hb : (l[k]?.getD 0 != l'[k]?.getD 0) = true := by simp [he]
          have HE := Lib.hid he
          clear he
          go_wp2
          go_quiet (fail)
          go_wp2
          go_ret
          exact ⟨by rw [decide_eq_false (p := l = l') (fun e => HE.out (by rw [e]))]; rfl, q + nq, by rw [World.drewN_drewN]⟩
      · have HH := Lib.hid h
        have HH' := Lib.hid h'
        clear h h'
        go_wp2
        go_ret
        have e : l = l' := by
          apply List.ext_getElem
          · rw [← HH.out.1, ← HH'.out.1]
          · intro j h1 h2
            have := HJ.out j (by have := HH.out.1; omega)
            rw [List.getElem?_eq_getElem h1, List.getElem?_eq_getElem h2] at this
            exact this
        exact ⟨by rw [decide_eq_true (p := l = l') e]; rfl, q, rfl⟩
  · have hne : ((n : Int) != n') = true := by simp; omega
    have HL := Lib.hid h.1
    have HL' := Lib.hid h'.1
    have HNE := Lib.hid hl
    clear h h' hl
    go_enter Tryd.func16, Tryd.ntmps16
    go_wp2
    go_ret
    exact ⟨by rw [decide_eq_false (p := l = l') (fun e => HNE.out (by rw [HL.out, HL'.out, e]))]; rfl, 0, rfl⟩

end Go.Proofs.YtjfnmjgfbkcaaaaDoor
