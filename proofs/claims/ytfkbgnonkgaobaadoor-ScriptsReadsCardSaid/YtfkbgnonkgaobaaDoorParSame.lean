/- Walks: same of vizardlaw23. -/
import Derived.Test.YtfkbgnonkgaobaaDoorScrPrint
import Derived.Test.YtfkbgnonkgaobaaDoorParHex
import Derived.Deep.RegionHeld3
namespace Go.Proofs.YtfkbgnonkgaobaaDoor
open Go.RowKit
set_option linter.unusedSimpArgs false
set_option linter.unusedVariables false

theorem take_same {L M : List Vz.Stp} {k : Nat} (h : L.take k = M.take k) (hk : k < L.length) (hl : L.length = M.length) : L.take (k + 1) = M.take (k + 1) ↔ L[k]?.getD Vz.Stp.nil = M[k]?.getD Vz.Stp.nil := by
  have hk2 : k < M.length := hl ▸ hk
  have e1 : L.take (k + 1) = L.take k ++ [L[k]?.getD Vz.Stp.nil] := by rw [List.take_add_one, List.getElem?_eq_getElem hk]; rfl
  have e2 : M.take (k + 1) = M.take k ++ [M[k]?.getD Vz.Stp.nil] := by rw [List.take_add_one, List.getElem?_eq_getElem hk2]; rfl
  rw [e1, e2, h]
  simp

theorem nine_diff {x y : Vz.Stp} (h : x ≠ y) : ¬ (x.d = y.d ∧ x.text = y.text ∧ x.kind = y.kind ∧ x.code = y.code ∧ x.shift = y.shift ∧ x.ctrl = y.ctrl ∧ x.rows = y.rows ∧ x.cols = y.cols ∧ x.to = y.to) := by
  rintro ⟨h0, h1, h2, h3, h4, h5, h6, h7, h8⟩
  obtain ⟨a0, a1, a2, a3, a4, a5, a6, a7, a8⟩ := x
  obtain ⟨b0, b1, b2, b3, b4, b5, b6, b7, b8⟩ := y
  simp only at h0 h1 h2 h3 h4 h5 h6 h7 h8
  subst h0 h1 h2 h3 h4 h5 h6 h7 h8
  exact h rfl

set_option maxRecDepth 100000 in
set_option maxHeartbeats 1000000 in
theorem same_any (A B : Option Addr) (m c n d : Nat) (L M : List Vz.Stp) (w : World) (hI : Steps w.heap.size w A m L) (hJ : Steps w.heap.size w B n M) (hm : m ≤ 10000) :
    Calls Tryd.prog 16 #[.slice A m c, .slice B n d] w fun e w' => e = .returned (.bool (decide (L = M))) ∧ Below w.heap.size w w' := by
  have HI := Lib.hid hI
  have HJ := Lib.hid hJ
  have HML : Hid (m = L.length) := hI.1
  have HNL : Hid (n = M.length) := hJ.1
  clear hI hJ
  go_enter Tryd.func16, Tryd.ntmps16
  by_cases hmn : m = n
  · subst hmn
    go_wp2_with fail
    go_loopw [5] (fun i wr => ∃ k : Nat, k ≤ m ∧ i = .int .i64 k ∧ L.take k = M.take k ∧ Below w.heap.size w wr) (fun i _ => m - (intOf i).toNat)
    case atStart => exact ⟨0, Nat.zero_le _, rfl, rfl, Below.refl _ _⟩
    case round =>
      obtain ⟨k, hk, rfl, ht, hB⟩ := hrel
      have HT := Lib.hid ht
      clear ht
      by_cases hlt : k < m
      · obtain ⟨b, o, rfl, hbB, hx⟩ := (HI.out.below hB (Nat.le_refl _)).at_ hlt
        obtain ⟨b2, o2, rfl, hbB2, hy⟩ := (HJ.out.below hB (Nat.le_refl _)).at_ hlt
        have hts := take_same HT.out (by have := HML.out; omega) (HML.out.symm.trans HNL.out)
        generalize L[k]?.getD Vz.Stp.nil = x at hx hts
        generalize M[k]?.getD Vz.Stp.nil = y at hy hts
        have HTS := Lib.hid hts
        clear hts
        obtain ⟨h0, h1, h2, h3, h4, h5, h6, h7, h8⟩ := hx
        obtain ⟨g0, g1, g2, g3, g4, g5, g6, g7, g8⟩ := hy
        have hltI : (k : Int) < (m : Int) := by omega
        by_cases hxy : x = y
        · subst hxy
          go_wp2_with fail
          refine wp_region_noPanic ?_
          refine wp_region_held_drew (S := fun W : World => W.cell? ⟨b, o + k * 9, none⟩ = some (.int .i64 x.d) ∧ W.cell? ⟨b, o + k * 9 + 1, none⟩ = some (.string ⟨x.text.toArray⟩) ∧ W.cell? ⟨b, o + k * 9 + 2, none⟩ = some (.int .i64 x.kind) ∧ W.cell? ⟨b, o + k * 9 + 3, none⟩ = some (.int .i64 x.code) ∧ W.cell? ⟨b, o + k * 9 + 4, none⟩ = some (.bool x.shift) ∧ W.cell? ⟨b, o + k * 9 + 5, none⟩ = some (.bool x.ctrl) ∧ W.cell? ⟨b, o + k * 9 + 6, none⟩ = some (.int .i64 x.rows) ∧ W.cell? ⟨b, o + k * 9 + 7, none⟩ = some (.int .i64 x.cols) ∧ W.cell? ⟨b, o + k * 9 + 8, none⟩ = some (.int .i64 x.to) ∧ W.cell? ⟨b2, o2 + k * 9, none⟩ = some (.int .i64 x.d) ∧ W.cell? ⟨b2, o2 + k * 9 + 1, none⟩ = some (.string ⟨x.text.toArray⟩) ∧ W.cell? ⟨b2, o2 + k * 9 + 2, none⟩ = some (.int .i64 x.kind) ∧ W.cell? ⟨b2, o2 + k * 9 + 3, none⟩ = some (.int .i64 x.code) ∧ W.cell? ⟨b2, o2 + k * 9 + 4, none⟩ = some (.bool x.shift) ∧ W.cell? ⟨b2, o2 + k * 9 + 5, none⟩ = some (.bool x.ctrl) ∧ W.cell? ⟨b2, o2 + k * 9 + 6, none⟩ = some (.int .i64 x.rows) ∧ W.cell? ⟨b2, o2 + k * 9 + 7, none⟩ = some (.int .i64 x.cols) ∧ W.cell? ⟨b2, o2 + k * 9 + 8, none⟩ = some (.int .i64 x.to)) (by kernel_rfl) (by refine ⟨h0, h1, h2, h3, h4, h5, h6, h7, h8, g0, g1, g2, g3, g4, g5, g6, g7, g8⟩) (fun hHeld => ?_)
          refine wpAnyH_take (i := 0) (v := ?_) rfl (by kernel_rfl) (by kernel_rfl) (by kernel_rfl) (fun _ _ _ h => h) (Or.inl ⟨by rfl, ?hy0⟩) hHeld ?_
          case hy0 => (intro w hSw; (try dsimp only at hSw); go_simp; try with_reducible rfl)
          try simp only [Act.put, List.getElem_toArray, List.getElem_cons_zero, List.getElem_cons_succ, List.setIfInBounds_toArray, List.set_cons_zero, List.set_cons_succ]
          refine wpAnyH_take (i := 1) (v := ?_) rfl (by kernel_rfl) (by kernel_rfl) (by kernel_rfl) (fun _ _ _ h => h) (Or.inl ⟨by rfl, ?hy1⟩) hHeld ?_
          case hy1 => (intro w hSw; (try dsimp only at hSw); go_simp; try with_reducible rfl)
          try simp only [Act.put, List.getElem_toArray, List.getElem_cons_zero, List.getElem_cons_succ, List.setIfInBounds_toArray, List.set_cons_zero, List.set_cons_succ]
          refine wpAnyH_take (i := 2) (v := ?_) rfl (by kernel_rfl) (by kernel_rfl) (by kernel_rfl) (fun _ _ _ h => h) (Or.inl ⟨by rfl, ?hy2⟩) hHeld ?_
          case hy2 => (intro w hSw; (try dsimp only at hSw); go_simp; try with_reducible rfl)
          try simp only [Act.put, List.getElem_toArray, List.getElem_cons_zero, List.getElem_cons_succ, List.setIfInBounds_toArray, List.set_cons_zero, List.set_cons_succ]
          refine wpAnyH_take (i := 3) (v := ?_) rfl (by kernel_rfl) (by kernel_rfl) (by kernel_rfl) (fun _ _ _ h => h) (Or.inl ⟨by rfl, ?hy3⟩) hHeld ?_
          case hy3 => (intro w hSw; (try dsimp only at hSw); go_simp; try with_reducible rfl)
          try simp only [Act.put, List.getElem_toArray, List.getElem_cons_zero, List.getElem_cons_succ, List.setIfInBounds_toArray, List.set_cons_zero, List.set_cons_succ]
          refine wpAnyH_take (i := 4) (v := ?_) rfl (by kernel_rfl) (by kernel_rfl) (by kernel_rfl) (fun _ _ _ h => h) (Or.inl ⟨by rfl, ?hy4⟩) hHeld ?_
          case hy4 => (intro w hSw; (try dsimp only at hSw); go_simp; try with_reducible rfl)
          try simp only [Act.put, List.getElem_toArray, List.getElem_cons_zero, List.getElem_cons_succ, List.setIfInBounds_toArray, List.set_cons_zero, List.set_cons_succ]
          refine wpAnyH_take (i := 5) (v := ?_) rfl (by kernel_rfl) (by kernel_rfl) (by kernel_rfl) (fun _ _ _ h => h) (Or.inl ⟨by rfl, ?hy5⟩) hHeld ?_
          case hy5 => (intro w hSw; (try dsimp only at hSw); go_simp; try with_reducible rfl)
          try simp only [Act.put, List.getElem_toArray, List.getElem_cons_zero, List.getElem_cons_succ, List.setIfInBounds_toArray, List.set_cons_zero, List.set_cons_succ]
          refine wpAnyH_take (i := 6) (v := ?_) rfl (by kernel_rfl) (by kernel_rfl) (by kernel_rfl) (fun _ _ _ h => h) (Or.inl ⟨by rfl, ?hy6⟩) hHeld ?_
          case hy6 => (intro w hSw; (try dsimp only at hSw); go_simp; try with_reducible rfl)
          try simp only [Act.put, List.getElem_toArray, List.getElem_cons_zero, List.getElem_cons_succ, List.setIfInBounds_toArray, List.set_cons_zero, List.set_cons_succ]
          refine wpAnyH_take (i := 7) (v := ?_) rfl (by kernel_rfl) (by kernel_rfl) (by kernel_rfl) (fun _ _ _ h => h) (Or.inl ⟨by rfl, ?hy7⟩) hHeld ?_
          case hy7 => (intro w hSw; (try dsimp only at hSw); go_simp; try with_reducible rfl)
          try simp only [Act.put, List.getElem_toArray, List.getElem_cons_zero, List.getElem_cons_succ, List.setIfInBounds_toArray, List.set_cons_zero, List.set_cons_succ]
          refine wpAnyH_take (i := 8) (v := ?_) rfl (by kernel_rfl) (by kernel_rfl) (by kernel_rfl) (fun _ _ _ h => h) (Or.inl ⟨by rfl, ?hy8⟩) hHeld ?_
          case hy8 => (intro w hSw; (try dsimp only at hSw); go_simp; with_reducible rfl)
          try simp only [Act.put, List.getElem_toArray, List.getElem_cons_zero, List.getElem_cons_succ, List.setIfInBounds_toArray, List.set_cons_zero, List.set_cons_succ]
          refine wpAnyH_done (by kernel_rfl) ?_ _
          refine NoPanic.normal ?_
          go_wp2_with fail
          exact ⟨⟨k + 1, hlt, by go_num, HTS.out.2 trivial, below_join hB (Below.refl _ _).drew⟩, by simp [intOf]; omega⟩
        · have HXY := Lib.hid hxy
          have hlm : decide (L = M) = false := decide_eq_false fun e => hxy (HTS.out.1 (by rw [e]))
          have HLM := Lib.hid hlm
          have HNE := Lib.hid (nine_diff hxy)
          clear hxy hlm
          go_wp2_with fail
          refine wp_region_noPanic ?_
          refine wp_region_held_drew (S := fun W : World => W.cell? ⟨b, o + k * 9, none⟩ = some (.int .i64 x.d) ∧ W.cell? ⟨b, o + k * 9 + 1, none⟩ = some (.string ⟨x.text.toArray⟩) ∧ W.cell? ⟨b, o + k * 9 + 2, none⟩ = some (.int .i64 x.kind) ∧ W.cell? ⟨b, o + k * 9 + 3, none⟩ = some (.int .i64 x.code) ∧ W.cell? ⟨b, o + k * 9 + 4, none⟩ = some (.bool x.shift) ∧ W.cell? ⟨b, o + k * 9 + 5, none⟩ = some (.bool x.ctrl) ∧ W.cell? ⟨b, o + k * 9 + 6, none⟩ = some (.int .i64 x.rows) ∧ W.cell? ⟨b, o + k * 9 + 7, none⟩ = some (.int .i64 x.cols) ∧ W.cell? ⟨b, o + k * 9 + 8, none⟩ = some (.int .i64 x.to) ∧ W.cell? ⟨b2, o2 + k * 9, none⟩ = some (.int .i64 y.d) ∧ W.cell? ⟨b2, o2 + k * 9 + 1, none⟩ = some (.string ⟨y.text.toArray⟩) ∧ W.cell? ⟨b2, o2 + k * 9 + 2, none⟩ = some (.int .i64 y.kind) ∧ W.cell? ⟨b2, o2 + k * 9 + 3, none⟩ = some (.int .i64 y.code) ∧ W.cell? ⟨b2, o2 + k * 9 + 4, none⟩ = some (.bool y.shift) ∧ W.cell? ⟨b2, o2 + k * 9 + 5, none⟩ = some (.bool y.ctrl) ∧ W.cell? ⟨b2, o2 + k * 9 + 6, none⟩ = some (.int .i64 y.rows) ∧ W.cell? ⟨b2, o2 + k * 9 + 7, none⟩ = some (.int .i64 y.cols) ∧ W.cell? ⟨b2, o2 + k * 9 + 8, none⟩ = some (.int .i64 y.to)) (by kernel_rfl) (by refine ⟨h0, h1, h2, h3, h4, h5, h6, h7, h8, g0, g1, g2, g3, g4, g5, g6, g7, g8⟩) (fun hHeld => ?_)
          refine wpAnyH_take (i := 0) (v := ?_) rfl (by kernel_rfl) (by kernel_rfl) (by kernel_rfl) (fun _ _ _ h => h) (Or.inl ⟨by rfl, ?hy0⟩) hHeld ?_
          case hy0 => (intro w hSw; (try dsimp only at hSw); go_simp; try with_reducible rfl)
          try simp only [Act.put, List.getElem_toArray, List.getElem_cons_zero, List.getElem_cons_succ, List.setIfInBounds_toArray, List.set_cons_zero, List.set_cons_succ]
          refine wpAnyH_take (i := 1) (v := ?_) rfl (by kernel_rfl) (by kernel_rfl) (by kernel_rfl) (fun _ _ _ h => h) (Or.inl ⟨by rfl, ?hy1⟩) hHeld ?_
          case hy1 => (intro w hSw; (try dsimp only at hSw); go_simp; try with_reducible rfl)
          try simp only [Act.put, List.getElem_toArray, List.getElem_cons_zero, List.getElem_cons_succ, List.setIfInBounds_toArray, List.set_cons_zero, List.set_cons_succ]
          refine wpAnyH_take (i := 2) (v := ?_) rfl (by kernel_rfl) (by kernel_rfl) (by kernel_rfl) (fun _ _ _ h => h) (Or.inl ⟨by rfl, ?hy2⟩) hHeld ?_
          case hy2 => (intro w hSw; (try dsimp only at hSw); go_simp; try with_reducible rfl)
          try simp only [Act.put, List.getElem_toArray, List.getElem_cons_zero, List.getElem_cons_succ, List.setIfInBounds_toArray, List.set_cons_zero, List.set_cons_succ]
          refine wpAnyH_take (i := 3) (v := ?_) rfl (by kernel_rfl) (by kernel_rfl) (by kernel_rfl) (fun _ _ _ h => h) (Or.inl ⟨by rfl, ?hy3⟩) hHeld ?_
          case hy3 => (intro w hSw; (try dsimp only at hSw); go_simp; try with_reducible rfl)
          try simp only [Act.put, List.getElem_toArray, List.getElem_cons_zero, List.getElem_cons_succ, List.setIfInBounds_toArray, List.set_cons_zero, List.set_cons_succ]
          refine wpAnyH_take (i := 4) (v := ?_) rfl (by kernel_rfl) (by kernel_rfl) (by kernel_rfl) (fun _ _ _ h => h) (Or.inl ⟨by rfl, ?hy4⟩) hHeld ?_
          case hy4 => (intro w hSw; (try dsimp only at hSw); go_simp; try with_reducible rfl)
          try simp only [Act.put, List.getElem_toArray, List.getElem_cons_zero, List.getElem_cons_succ, List.setIfInBounds_toArray, List.set_cons_zero, List.set_cons_succ]
          refine wpAnyH_take (i := 5) (v := ?_) rfl (by kernel_rfl) (by kernel_rfl) (by kernel_rfl) (fun _ _ _ h => h) (Or.inl ⟨by rfl, ?hy5⟩) hHeld ?_
          case hy5 => (intro w hSw; (try dsimp only at hSw); go_simp; try with_reducible rfl)
          try simp only [Act.put, List.getElem_toArray, List.getElem_cons_zero, List.getElem_cons_succ, List.setIfInBounds_toArray, List.set_cons_zero, List.set_cons_succ]
          refine wpAnyH_take (i := 6) (v := ?_) rfl (by kernel_rfl) (by kernel_rfl) (by kernel_rfl) (fun _ _ _ h => h) (Or.inl ⟨by rfl, ?hy6⟩) hHeld ?_
          case hy6 => (intro w hSw; (try dsimp only at hSw); go_simp; try with_reducible rfl)
          try simp only [Act.put, List.getElem_toArray, List.getElem_cons_zero, List.getElem_cons_succ, List.setIfInBounds_toArray, List.set_cons_zero, List.set_cons_succ]
          refine wpAnyH_take (i := 7) (v := ?_) rfl (by kernel_rfl) (by kernel_rfl) (by kernel_rfl) (fun _ _ _ h => h) (Or.inl ⟨by rfl, ?hy7⟩) hHeld ?_
          case hy7 => (intro w hSw; (try dsimp only at hSw); go_simp; try with_reducible rfl)
          try simp only [Act.put, List.getElem_toArray, List.getElem_cons_zero, List.getElem_cons_succ, List.setIfInBounds_toArray, List.set_cons_zero, List.set_cons_succ]
          refine wpAnyH_take (i := 8) (v := ?_) rfl (by kernel_rfl) (by kernel_rfl) (by kernel_rfl) (fun _ _ _ h => h) (Or.inl ⟨by rfl, ?hy8⟩) hHeld ?_
          case hy8 => (intro w hSw; (try dsimp only at hSw); go_simp; exact nine_ne HNE.out)
          try simp only [Act.put, List.getElem_toArray, List.getElem_cons_zero, List.getElem_cons_succ, List.setIfInBounds_toArray, List.set_cons_zero, List.set_cons_succ]
          refine wpAnyH_done (by kernel_rfl) ?_ _
          refine NoPanic.normal ?_
          go_wp2_with fail
          go_ret
          exact ⟨by rw [HLM.out]; rfl, below_join hB (Below.refl _ _).drew⟩
      · obtain rfl : k = m := by omega
        have he : L = M := by
          have h := HT.out
          rwa [List.take_of_length_le (by have := HML.out; omega), List.take_of_length_le (by have := HNL.out; omega)] at h
        have HE := Lib.hid he
        clear he
        go_wp2_with fail
        go_ret
        exact ⟨by rw [decide_eq_true HE.out]; rfl, hB⟩
  · have hne : L ≠ M := fun e => hmn (by rw [HML.out, HNL.out, e])
    have HE := Lib.hid hne
    have hm2 : ((m : Int) != n) = true := by simp; omega
    clear hne
    go_wp2_with fail
    go_ret
    exact ⟨by rw [decide_eq_false HE.out]; rfl, Below.refl _ _⟩
end Go.Proofs.YtfkbgnonkgaobaaDoor
