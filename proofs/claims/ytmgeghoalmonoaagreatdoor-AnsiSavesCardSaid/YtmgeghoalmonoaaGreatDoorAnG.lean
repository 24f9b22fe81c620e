import Derived.Test.YtmgeghoalmonoaaGreatDoorAnF

/- Walks of ANSI.SYS: attributes. -/
namespace Go.Proofs.YtmgeghoalmonoaaGreatDoor
open Go.RowKit
set_option linter.unusedSimpArgs false
set_option linter.unusedVariables false
set_option maxRecDepth 100000
attribute [local go_sem] alloc_drewN setCell_drewN World.cell?_alloc_some frozen_alloc_some pos_f1

/-- The first k of the numbers in block g are none below 0. -/
def NumK (w0 : World) (g : Nat) (l : List Int) (k : Nat) (W : World) : Prop :=
  Below w0.heap.size w0 W ∧ w0.heap.size ≤ g ∧ ∃ cur, W.heap[g]? = some (.cells cur 3 (0, 0)) ∧ ∀ i, i < l.length → cur[i]? = some (.int .i64 (if i < k then max (l[i]?.getD 0) 0 else l[i]?.getD 0))
theorem NumK.cell {w0 W : World} {g k : Nat} {l : List Int} (h : NumK w0 g l k W) (hk : k < l.length) : W.cell? ⟨g, k, none⟩ = some (.int .i64 (l[k]?.getD 0)) ∧ W.frozen? ⟨g, k, none⟩ = false := by
  obtain ⟨_, _, cur, hg, hc⟩ := h
  have := hc k hk
  rw [if_neg (Nat.lt_irrefl k)] at this
  exact ⟨(cell_row hg k).trans this, frozen_row hg k⟩
theorem NumK.step {w0 W : World} {g k : Nat} {l : List Int} (h : NumK w0 g l k W) (hk : k < l.length) : NumK w0 g l (k + 1) (W.setCell ⟨g, k, none⟩ (.int .i64 (max (l[k]?.getD 0) 0))) := by
  obtain ⟨hb, hg0, cur, hg, hc⟩ := h
  refine ⟨hb.setCell (p := ⟨g, k, none⟩) hg0 _, hg0, _, heap_set_same hg k _, fun i hi => ?_⟩
  have h1 := hc i hi
  have hlt : i < cur.size := (Array.getElem?_eq_some_iff.1 h1).1
  by_cases hik : k = i
  · subst hik
    rw [Array.getElem?_setIfInBounds_self_of_lt hlt, if_pos (Nat.lt_succ_self _)]
  · rw [Array.getElem?_setIfInBounds_ne hik, h1]
    by_cases hik2 : i < k
    · rw [if_pos hik2, if_pos (by omega)]
    · rw [if_neg hik2, if_neg (by omega)]
theorem NumK.ints {w0 W : World} {g : Nat} {l : List Int} (h : NumK w0 g l l.length W) : Ints W.heap.size W (some ⟨g, 0, none⟩) l.length (l.map fun x => max x 0) := by
  obtain ⟨hb, hg0, cur, hg, hc⟩ := h
  refine ⟨by simp, fun _ => ⟨g, 0, rfl, block_lt hg, fun i hi => ?_⟩⟩
  rw [Nat.zero_add]
  refine (cell_row hg i).trans ((hc i hi).trans ?_)
  rw [if_pos hi, List.getElem?_map, List.getElem?_eq_getElem hi]
  rfl
section
variable {w0 w : World} {P : Pt} {G : Nat → Prop} {A : An} {v : Value} {l : List Int}
set_option maxHeartbeats 4000000 in
theorem an_attr (hb0 : Below w0.heap.size w0 w) (h : AnW w0 P G A) (hn : w.ownsRow w0.heap.size 3 1 v l.length (l.map (Value.int .i64))) (hl : l.length ≤ 1000) : Calls Tryz.prog 70 #[.pointer (some ⟨P.tp, 0, none⟩), v] w fun e w' => e = .returned (.tuple #[]) ∧ AnTo w0 w' P G { A with attr := applyN A.attr (l.map fun x => max x 0) } := by
  have HA := Lib.hid (fun W (hb : Below w0.heap.size w0 W) => h.below hb)
  clear h
  have hend : ∀ (W : World), Below w0.heap.size w0 W → ∀ z, AnTo w0 (W.setCell ⟨P.tp, 3, none⟩ (.int .i64 z)) P G { A with attr := z } := fun W hb z =>
    AnTo.after hb ((HA.out W hb).boxed (A' := { A with attr := z }) rfl rfl rfl rfl rfl rfl (heap_set_same (HA.out W hb).box 3 (.int .i64 z)) (Keeps.setCell (fun k => k = P.tp) W (p := ⟨P.tp, 3, none⟩) rfl (.int .i64 z)))
  have HE := Lib.hid hend
  clear hend
  obtain ⟨a, cap, rfl⟩ := ownsRow_slice hn
  rcases hn.2 with ⟨hv, h0⟩ | ⟨g, cap', cur, hv, hg0, hg, _, _, _, htk⟩
  · have hnil : l = [] := List.eq_nil_of_length_eq_zero h0
    subst hnil
    injection hv with h1 h2 h3
    subst h1
    subst h3
    have HAP := Lib.hid (apply_any w.heap.size A.attr none 0 0 [] (by decide) w ⟨rfl, fun h => absurd h (by decide)⟩ (Nat.le_refl _))
    have HB := Lib.hid hb0
    obtain ⟨⟨_, _, _, t3, _⟩, _⟩ := (HA.out w hb0).cells
    clear hn hb0 hl
    go_enter Tryz.func70, Tryz.ntmps70
    go_wp2_with fail
    go_loopw [7] (fun i wr => i = .int .i64 0 ∧ wr = w) (fun _ _ => 0)
    case atStart => exact ⟨rfl, rfl⟩
    case round =>
      obtain ⟨rfl, rfl⟩ := hrel
      go_wp2_with (go_at_call 90; refine HAP.out.mono ?_; rintro e w2 ⟨rfl, hb2⟩; have HB2 := Lib.hid (HB.out.trans (hb2.mono HB.out.size)); obtain ⟨⟨_, _, _, s3, _⟩, f3, _⟩ := (HA.out w2 HB2.out).cells; clear hb2)
      go_end0
      exact ⟨rfl, HE.out w2 HB2.out _⟩
  · injection hv with h1 h2 h3
    subst h1
    have HK0 : Hid (NumK w0 g l 0 w) := ⟨hb0, hg0, cur, hg, fun i hi => by
      rw [if_neg (Nat.not_lt_zero _)]
      have e : (cur.toList.take (l.length * 1))[i]? = cur[i]? := by rw [List.getElem?_take_of_lt (by omega), Array.getElem?_toList]
      rw [← e, htk, List.getElem?_map, List.getElem?_eq_getElem hi]
      rfl⟩
    have HL := Lib.hid hl
    clear hn hb0 hg htk h3 hl
    go_enter Tryz.func70, Tryz.ntmps70
    go_wp2_with fail
    go_loopw [7] (fun i wr => ∃ k : Nat, i = .int .i64 (k : Int) ∧ k ≤ l.length ∧ NumK w0 g l k wr) (fun i _ => l.length - (intOf i).toNat)
    case atStart => exact ⟨0, rfl, Nat.zero_le _, HK0.out⟩
    case round =>
      obtain ⟨k, rfl, hk, hnk⟩ := hrel
      have HNK := Lib.hid hnk
      clear hnk
      have HLL := HL.out
      by_cases hlt : k < l.length
      · have hz : (k : Int) < (l.length : Int) := by omega
        have hz0 : (0 : Int) ≤ (k : Int) := by omega
        have hwk : IntKind.i64.wrap ((k : Int) + 1) = ((k + 1 : Nat) : Int) := by rw [wrap_in (by omega) (by omega)]; rfl
        obtain ⟨c0, f0⟩ := HNK.out.cell hlt
        have HST := Lib.hid (HNK.out.step hlt)
        generalize l[k]?.getD 0 = x at c0 HST
        go_wp2_with fail
        exact ⟨⟨k + 1, by simp, hlt, HST.out⟩, by simp [intOf]; omega⟩
      · have hz : ¬ (k : Int) < (l.length : Int) := by omega
        obtain rfl : k = l.length := by omega
        have HAP := Lib.hid (apply_any _ A.attr _ l.length cap _ HLL wr HNK.out.ints (Nat.le_refl _))
        obtain ⟨⟨_, _, _, t3, _⟩, _⟩ := (HA.out wr HNK.out.1).cells
        go_wp2_with (go_at_call 90; refine HAP.out.mono ?_; rintro e w2 ⟨rfl, hb2⟩; have HB2 := Lib.hid (HNK.out.1.trans (hb2.mono HNK.out.1.size)); obtain ⟨⟨_, _, _, s3, _⟩, f3, _⟩ := (HA.out w2 HB2.out).cells; clear hb2)
        go_end0
        exact ⟨rfl, HE.out w2 HB2.out _⟩
end
end Go.Proofs.YtmgeghoalmonoaaGreatDoor
