/- A parameter that is a slice of ints: what the row's reading gives. -/
import Derived.Test.YtjfnmjgfbkcaaaaDoorWords
import Derived.Test.YtjfnmjgfbkcaaaaDoorProg
import Derived.WalkKit
import Derived.ProofKit
import Derived.ChangeOld
import Derived.Below
namespace Go.Proofs.YtjfnmjgfbkcaaaaDoor
open Go.RowKit

theorem laidOut : laidOutB Tryd.prog = true := by kernel_rfl
/-- A slice of integers that came in: it is nil; or it leads to a row of 'cap' cells, the numbers 'zs'. -/
def IsRow (k : IntKind) (w : World) (a : Option Addr) (len cap : Nat) (zs : List Int) : Prop :=
  (a = none ∧ len = 0 ∧ cap = 0 ∧ zs = []) ∨
  ∃ x, a = some x ∧ len ≤ cap ∧ cap ≤ maxLen ∧ zs.length = cap ∧ (∀ i, i < zs.length → w.cell? (x.add i) = some (.int k (zs.getD i 0))) ∧ ∀ n ∈ zs, (Lit.int k n).wf = true
theorem IsRow.len {k : IntKind} {w : World} {a : Option Addr} {len cap : Nat} {zs : List Int} (h : IsRow k w a len cap zs) : len ≤ cap ∧ cap ≤ maxLen := by
  rcases h with ⟨_, rfl, rfl, _⟩ | ⟨_, _, h1, h2, _⟩
  · exact ⟨Nat.le_refl _, Nat.zero_le _⟩
  · exact ⟨h1, h2⟩
theorem IsRow.ints {w : World} {a : Option Addr} {len cap : Nat} {zs : List Int} (h : IsRow .i64 w a len cap zs) : Ints w.heap.size w a len (zs.take len) := by
  rcases h with ⟨rfl, rfl, _, rfl⟩ | ⟨x, rfl, hl, hm, hz, hc, _⟩
  · exact ⟨rfl, fun h => absurd h (by decide)⟩
  · refine ⟨by rw [List.length_take]; omega, fun h0 => ?_⟩
    have h1 := hc 0 (by omega)
    rw [show x.add 0 = x from rfl] at h1
    have hs : x.spot = none := by
      unfold World.cell? at h1
      split at h1
      · split at h1
        · cases h1
        · rename_i hn; simpa using hn
      · cases h1
    have hlt := World.block_lt_of_cell? w x h1
    refine ⟨x.block, x.off, by cases x; simp_all, hlt, fun i hi => ?_⟩
    have h2 := hc i (by omega)
    rw [show x.add i = ⟨x.block, x.off + i, none⟩ by unfold Addr.add; split
                                                     · rename_i h; subst h; cases x; simp_all
                                                     · rfl] at h2
    rw [h2]
    simp [List.getElem?_take, hi, List.getD]
end Go.Proofs.YtjfnmjgfbkcaaaaDoor
