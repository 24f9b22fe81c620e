/- Walks: Few of vizardlaw23. -/
import Derived.Test.YtfkbgnonkgaobaaDoorScrCheckC
import Derived.Test.YtfkbgnonkgaobaaDoorScrNumb
import Derived.IntWalk
namespace Go.Proofs.YtfkbgnonkgaobaaDoor
open Go.RowKit
set_option linter.unusedSimpArgs false
set_option linter.unusedVariables false

/-- What Few answers. -/
def FewR (m : Nat) (L : List Vz.Stp) (e : Ending) : Prop := ∃ b, e = .returned (.bool b) ∧ (b = true → m ≤ 30 ∧ ∀ j, j < m → (L[j]?.getD Vz.Stp.nil).text.length ≤ 100)
theorem fewR_false {m : Nat} {L : List Vz.Stp} {e : Ending} (h : e = .returned (.bool false)) : FewR m L e := ⟨false, h, fun h => by cases h⟩

set_option maxHeartbeats 4000000 in
theorem few_any (A : Option Addr) (m c : Nat) (L : List Vz.Stp) (w : World) (hI : Steps w.heap.size w A m L) (hm : m ≤ maxLen) :
    Calls Tryd.prog 7 #[.slice A m c] w fun e w' => FewR m L e ∧ Below w.heap.size w w' := by
  have HI := Lib.hid hI
  have hw : ∀ k : Nat, k < m → IntKind.i64.wrap ((k : Int) + 1) = (k : Int) + 1 := fun k hk => by
    unfold maxLen at hm
    rw [IntKind.wrap_i64]; omega
  have HW := Lib.hid hw
  clear hI hm hw
  go_enter Tryd.func7, Tryd.ntmps7
  go_wp2_with fail
  go_loopw [3] (fun i wr => ∃ k : Nat, k ≤ m ∧ i = .int .i64 k ∧ (∀ j, j < k → (L[j]?.getD Vz.Stp.nil).text.length ≤ 100) ∧ Below w.heap.size w wr) (fun i _ => m - (intOf i).toNat)
  case atStart => exact ⟨0, Nat.zero_le _, rfl, fun j hj => absurd hj (by omega), Below.refl _ _⟩
  case round =>
    obtain ⟨k, hk, rfl, hj, hB⟩ := hrel
    have HJ := Lib.hid hj
    clear hj
    by_cases hlt : k < m
    · obtain ⟨b, o, rfl, hbB, hx⟩ := (HI.out.below hB (Nat.le_refl _)).at_ hlt
      have hwk := HW.out k hlt
      have HX := Lib.hid (rfl : L[k]?.getD Vz.Stp.nil = L[k]?.getD Vz.Stp.nil)
      generalize hxx : L[k]?.getD Vz.Stp.nil = x at hx HX
      have HXX := Lib.hid hxx
      clear hxx HX
      have hz : (⟨x.text.toArray⟩ : ByteArray).size = x.text.length := by show x.text.toArray.size = _; simp
      have HZ := Lib.hid hz
      obtain ⟨h0, h1, h2, h3, h4, h5, h6, h7, h8⟩ := hx
      generalize (⟨x.text.toArray⟩ : ByteArray) = T at h1 hz HZ
      clear hz
      have hBs := hB.size
      have h1' := cell_alloc_all h1
      by_cases hT : T.size ≤ 100
      · have hTb : decide ((100 : Int) < (T.size : Int)) = false := decide_eq_false (by omega)
        have HBA : Hid (∀ o, Below w.heap.size w (wr.alloc o)) := fun o => hB.alloc hBs o
        have HTT := Lib.hid hT
        clear hT
        go_wp2_with fail
        all_goals first
          | (go_ret; exact ⟨fewR_false rfl, HBA.out _⟩)
          | exact ⟨⟨k + 1, by omega, by go_num, fun j hj => by
              rcases Nat.lt_succ_iff_lt_or_eq.1 hj with h | h
              · exact HJ.out j h
              · rw [h, HXX.out, ← HZ.out]; exact HTT.out, HBA.out _⟩, by simp [intOf]; omega⟩
      · have hTb : decide ((100 : Int) < (T.size : Int)) = true := decide_eq_true (by omega)
        have HBA : Hid (∀ o, Below w.heap.size w (wr.alloc o)) := fun o => hB.alloc hBs o
        clear hT
        go_wp2_with fail
        go_ret
        exact ⟨fewR_false rfl, HBA.out _⟩
    · obtain rfl : k = m := by omega
      go_wp2_with fail
      go_ret
      exact ⟨⟨_, rfl, fun h => ⟨by have := of_decide_eq_true h; omega, HJ.out⟩⟩, hB⟩
end Go.Proofs.YtfkbgnonkgaobaaDoor
