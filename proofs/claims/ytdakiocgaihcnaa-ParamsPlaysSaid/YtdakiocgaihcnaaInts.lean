/- Walks: ints, params.Or, awake of vizardlaw10. -/
import Derived.Test.YtdakiocgaihcnaaWords
import Derived.Test.YtdakiocgaihcnaaNumbers
import Derived.BigQuiet
import Derived.Deep.QuietTactic
namespace Go.Proofs.Ytdakiocgaihcnaa
open Go.RowKit

set_option maxHeartbeats 1000000 in
theorem ints_any (B : Nat) (A A' : Option Addr) (n n' c c' : Nat) (l l' : List Int) (w : World) (h : Ints B w A n l) (h' : Ints B w A' n' l') (hn : n ≤ 4611686018427387904) (hn' : n' ≤ 4611686018427387904) :
    Calls Try.prog 12 #[.slice A n c, .slice A' n' c'] w fun e w' => e = .returned (.bool (decide (l = l'))) ∧ ∃ q, w' = w.drewN q := by
  by_cases hl : n = n'
  · subst hl
    go_enter Try.func12, Try.ntmps12
    go_wp2
    go_loopw [5] (fun i wr => ∃ k q : Nat, k ≤ n ∧ i = .int .i64 k ∧ (∀ j, j < k → l[j]?.getD 0 = l'[j]?.getD 0) ∧ wr = w.drewN q) (fun i _ => n - (intOf i).toNat)
    case atStart => exact ⟨0, 0, Nat.zero_le _, rfl, fun j hj => absurd hj (by omega), rfl⟩
    case round =>
      obtain ⟨k, q, hk, rfl, hj, rfl⟩ := hrel
      have HJ := Lib.hid hj
      clear hj
      by_cases hlt : k < n
      · obtain ⟨b, o, rfl, hc⟩ := h.at_ hlt
        obtain ⟨b', o', rfl, hc'⟩ := h'.at_ hlt
        have H := Lib.hid h
        have H' := Lib.hid h'
        clear h h'
        by_cases he : l[k]?.getD 0 = l'[k]?.getD 0
        · have hb : (l[k]?.getD 0 != l'[k]?.getD 0) = false := by simp [he]
          have HE := Lib.hid he
          clear he
          go_wp2
          go_quiet (fail)
          go_wp2
          exact ⟨⟨k + 1, q + nq, by omega, by go_num, fun j hj => by
            rcases Nat.lt_succ_iff_lt_or_eq.1 hj with h | h
            · exact HJ.out j h
            · rw [h]; exact HE.out, rfl⟩, by simp [intOf]; omega⟩
        · have hb : (l[k]?.getD 0 != l'[k]?.getD 0) = true := by simp [he]
          have HE := Lib.hid he
          clear he
          go_wp2
          go_quiet (fail)
          go_wp2
          go_ret
          exact ⟨by rw [decide_eq_false (p := l = l') (fun e => HE.out (by rw [e]))]; rfl, q + nq, by rw [World.drewN_drewN]⟩
      · have HH := Lib.hid h
        have HH' := Lib.hid h'
        clear h h'
        go_wp2
        go_ret
        have e : l = l' := by
          apply List.ext_getElem
          · rw [← HH.out.1, ← HH'.out.1]
          · intro j h1 h2
            have := HJ.out j (by have := HH.out.1; omega)
            rw [List.getElem?_eq_getElem h1, List.getElem?_eq_getElem h2] at this
            exact this
        exact ⟨by rw [decide_eq_true (p := l = l') e]; rfl, q, rfl⟩
  · have hne : ((n : Int) != n') = true := by simp; omega
    have HL := Lib.hid h.1
    have HL' := Lib.hid h'.1
    have HNE := Lib.hid hl
    clear h h' hl
    go_enter Try.func12, Try.ntmps12
    go_wp2
    go_ret
    exact ⟨by rw [decide_eq_false (p := l = l') (fun e => HNE.out (by rw [HL.out, HL'.out, e]))]; rfl, 0, rfl⟩

/-- params.Or. -/
def orL (l : List Int) (at_ other : Int) : Int := if 0 ≤ at_ ∧ at_ < l.length ∧ 0 ≤ l[at_.toNat]?.getD 0 then l[at_.toNat]?.getD 0 else other

theorem ret1 {a b : Value} (h : a = b) : Ending.returned a = .returned b := by rw [h]

set_option maxHeartbeats 1000000 in
theorem or_any (B : Nat) (A : Option Addr) (n c : Nat) (l : List Int) (i other : Int) (w : World) (h : Ints B w A n l) (_hn : n ≤ 4611686018427387904) :
    Calls Try.prog 13 #[.slice A n c, .int .i64 i, .int .i64 other] w fun e w' => e = .returned (.int .i64 (orL l i other)) ∧ w = w' := by
  by_cases h0 : 0 ≤ i
  · obtain ⟨k, rfl⟩ := Int.eq_ofNat_of_zero_le h0
    clear h0
    by_cases hk : k < n
    · obtain ⟨b, o, rfl, hc⟩ := h.at_ hk
      have HL := Lib.hid h.1
      clear h
      by_cases hv : 0 ≤ l[k]?.getD 0
      · have HV := Lib.hid hv
        go_enter Try.func13, Try.ntmps13
        go_wp2
        go_ret
        exact ⟨ret1 (by unfold orL; rw [if_pos ⟨by omega, by have := HL.out; omega, by simpa using HV.out⟩]; simp), rfl⟩
      · have HV := Lib.hid hv
        go_enter Try.func13, Try.ntmps13
        go_wp2
        go_ret
        exact ⟨ret1 (by unfold orL; rw [if_neg (by rintro ⟨_, _, e⟩; have h1 := HV.out; rw [Int.toNat_natCast] at e; omega)]; rfl), rfl⟩
    · have HL := Lib.hid h.1
      clear h
      go_enter Try.func13, Try.ntmps13
      go_wp2
      go_ret
      exact ⟨ret1 (by unfold orL; rw [if_neg (by rintro ⟨_, e, _⟩; have := HL.out; omega)]; rfl), rfl⟩
  · have HN := Lib.hid h0
    clear h
    go_enter Try.func13, Try.ntmps13
    go_wp2
    go_ret
    exact ⟨ret1 (by unfold orL; rw [if_neg (by rintro ⟨e, _⟩; have h1 := HN.out; omega)]; rfl), rfl⟩
end Go.Proofs.Ytdakiocgaihcnaa
