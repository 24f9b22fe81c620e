import Derived.Test.YtncgigapgklhcaaGreatDoorHF

/- The walk of the law's few: is a size not too great? -/
namespace Go.Proofs.YtncgigapgklhcaaGreatDoor
open Go.RowKit
set_option linter.unusedSimpArgs false
set_option linter.unusedVariables false
attribute [local go_sem] alloc_drewN setCell_drewN World.cell?_alloc_some frozen_alloc_some

def fewS (r c : Int) : Bool := decide (1 ≤ r ∧ r ≤ 6 ∧ 1 ≤ c ∧ c ≤ 12)
theorem few_any (r c : Int) (w : World) : Calls Tryz.prog 10 #[.agg #[.int .i64 r, .int .i64 c]] w fun e w' => e = .returned (.bool (fewS r c)) ∧ Below w.heap.size w w' := by
 have hx := heap_alloc_new w (.cells #[.int .i64 r, .int .i64 c] 23)
 obtain ⟨x0, x1, g0, g1⟩ := row2 hx
 by_cases h1 : 1 ≤ r
 · by_cases h2 : r ≤ 6
   · by_cases h3 : 1 ≤ c
     · by_cases h4 : c ≤ 12
       · rw [show fewS r c = true by unfold fewS; simp; omega]
         clear hx
         go_enter Tryz.func10, Tryz.ntmps10
         go_wp2_with fail
         go_ret
         exact ⟨by simp [h1, h2, h3, h4], below1 _ _⟩
       · have h4' : 12 < c := by omega
         rw [show fewS r c = false by unfold fewS; simp; omega]
         clear hx
         go_enter Tryz.func10, Tryz.ntmps10
         go_wp2_with fail
         go_ret
         exact ⟨by simp [h1, h2, h3, h4], below1 _ _⟩
     · have h3' : c < 1 := by omega
       rw [show fewS r c = false by unfold fewS; simp; omega]
       clear hx
       go_enter Tryz.func10, Tryz.ntmps10
       go_wp2_with fail
       go_ret
       exact ⟨by simp [h1, h2, h3], below1 _ _⟩
   · have h2' : 6 < r := by omega
     rw [show fewS r c = false by unfold fewS; simp; omega]
     clear hx
     go_enter Tryz.func10, Tryz.ntmps10
     go_wp2_with fail
     go_ret
     exact ⟨by simp [h1, h2], below1 _ _⟩
 · have h1' : r < 1 := by omega
   rw [show fewS r c = false by unfold fewS; simp; omega]
   clear hx
   go_enter Tryz.func10, Tryz.ntmps10
   go_wp2_with fail
   go_ret
   exact ⟨by simp [h1], below1 _ _⟩
end Go.Proofs.YtncgigapgklhcaaGreatDoor
