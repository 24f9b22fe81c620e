/- What Parse answers, for the laws: steps of a row; Print of what was parsed. -/
import Derived.Test.YtfkbgnonkgaobaaDoorParParse
import Derived.Test.YtfkbgnonkgaobaaDoorParSame
namespace Go.Proofs.YtfkbgnonkgaobaaDoor
open Go.RowKit
set_option linter.unusedSimpArgs false
set_option linter.unusedVariables false

theorem cellsL_get (L : List Vz.Stp) : ∀ i, i < L.length → ∀ j, j < 9 → (cellsL L)[i * 9 + j]? = (stpC (L[i]?.getD Vz.Stp.nil))[j]? := by
  induction L with
  | nil => intro i hi; cases hi
  | cons x r ih =>
    intro i hi j hj
    have hc : cellsL (x :: r) = stpC x ++ cellsL r := by unfold cellsL; simp
    have hl : (stpC x).length = 9 := rfl
    rw [hc]
    cases i with
    | zero =>
      rw [Nat.zero_mul, Nat.zero_add, List.getElem?_append_left (by omega)]
      rfl
    | succ i =>
      rw [List.getElem?_append_right (by omega), show (i + 1) * 9 + j - (stpC x).length = i * 9 + j by omega, ih i (by simp at hi; omega) j hj]
      rfl
theorem cellsL_len (L : List Vz.Stp) : (cellsL L).length = L.length * 9 := by
  induction L with
  | nil => rfl
  | cons x r ih =>
    have hc : cellsL (x :: r) = stpC x ++ cellsL r := by unfold cellsL; simp
    have hl : (stpC x).length = 9 := rfl
    rw [hc, List.length_append, ih, hl, List.length_cons]
    omega
theorem stpAt_row {W : World} {g i : Nat} {x : Vz.Stp} {cur : Array Value} {t : TypeId} (hg : W.heap[g]? = some (.cells cur t (0, 0))) (h : ∀ j, j < 9 → cur[i + j]? = (stpC x)[j]?) : StpAt W g i x := by
  refine ⟨?_, ?_, ?_, ?_, ?_, ?_, ?_, ?_, ?_⟩
  · rw [cell_of_row _ _ _ _ _ _ hg]; exact h 0 (by decide)
  · rw [cell_of_row _ _ _ _ _ _ hg]; exact h 1 (by decide)
  · rw [cell_of_row _ _ _ _ _ _ hg]; exact h 2 (by decide)
  · rw [cell_of_row _ _ _ _ _ _ hg]; exact h 3 (by decide)
  · rw [cell_of_row _ _ _ _ _ _ hg]; exact h 4 (by decide)
  · rw [cell_of_row _ _ _ _ _ _ hg]; exact h 5 (by decide)
  · rw [cell_of_row _ _ _ _ _ _ hg]; exact h 6 (by decide)
  · rw [cell_of_row _ _ _ _ _ _ hg]; exact h 7 (by decide)
  · rw [cell_of_row _ _ _ _ _ _ hg]; exact h 8 (by decide)
theorem steps_of_owns {W : World} {base n : Nat} {v : Value} {L : List Vz.Stp} (hn : n = L.length) (h : W.ownsRow base 33 9 v n (cellsL L)) : ∃ A c, v = .slice A n c ∧ Steps W.heap.size W A n L := by
  rcases h.2 with ⟨rfl, rfl⟩ | ⟨g, cap, cur, rfl, hb, hg, hn2, hcap, hcs, htk⟩
  · exact ⟨none, 0, rfl, hn, fun h0 => absurd h0 (by decide)⟩
  · refine ⟨_, _, rfl, hn, fun h0 => ⟨g, 0, rfl, (Array.getElem?_eq_some_iff.1 hg).1, fun i hi => ?_⟩⟩
    refine stpAt_row hg fun j hj => ?_
    have hiL : i < L.length := by omega
    rw [← cellsL_get L i hiL j hj, ← htk, Nat.zero_add, List.getElem?_take, if_pos (by omega)]
    simp

/-- What the laws' walks want of the world. -/
def Aid (w : World) : Prop := PowTab w ∧ ErrV w ∧ MaxL w
theorem Aid.below {w w' : World} (h : Aid w) (hb : Below w.heap.size w w') : Aid w' := ⟨h.1.below hb, h.2.1.below hb, h.2.2.below hb⟩

theorem parse_ok (T : ByteArray) (hT : T.size ≤ 20000) (hL : ∀ x ∈ Vz.linesOf T.data.toList, x.length ≤ 1000) (L : List Vz.Stp) (h : Vz.parseL (Vz.linesOf T.data.toList) = some L) (w : World) (ha : Aid w) :
    Calls Tryd.prog 14 #[.string T] w fun e W' => ∃ A c, e = .returned (.tuple #[.slice A L.length c, .int .i64 0]) ∧ Steps W'.heap.size W' A L.length L ∧ Below w.heap.size w W' := by
  refine (callsIn_wide.1 (parse_in 3 (Nat.le_refl _) T hT hL w ha.2.1 ha.2.2 ha.1)).mono ?_
  rintro e W' ⟨v, rfl, hr, hb⟩
  rw [h] at hr
  obtain ⟨A, c, rfl, hs⟩ := steps_of_owns rfl hr
  exact ⟨A, c, by rw [h]; rfl, hs, hb⟩
theorem parse_no (T : ByteArray) (hT : T.size ≤ 20000) (hL : ∀ x ∈ Vz.linesOf T.data.toList, x.length ≤ 1000) (h : Vz.parseL (Vz.linesOf T.data.toList) = none) (w : World) (ha : Aid w) :
    Calls Tryd.prog 14 #[.string T] w fun e W' => ∃ A c, e = .returned (.tuple #[.slice A 0 c, .int .i64 14]) ∧ Below w.heap.size w W' := by
  refine (callsIn_wide.1 (parse_in 3 (Nat.le_refl _) T hT hL w ha.2.1 ha.2.2 ha.1)).mono ?_
  rintro e W' ⟨v, rfl, hr, hb⟩
  rw [h] at hr
  obtain ⟨A, c, rfl, hs⟩ := steps_of_owns (L := []) rfl hr
  exact ⟨A, c, by rw [h]; rfl, hb⟩

/-- The text of right steps parses to them. -/
theorem back_text (L : List Vz.Stp) (h : L.all Vz.Stp.right = true) (ht : ∀ x ∈ L, x.text.length ≤ 100) (hn : L.length ≤ 60) :
    (⟨(linesL L).toArray⟩ : ByteArray).size ≤ 20000 ∧ (∀ x ∈ Vz.linesOf (⟨(linesL L).toArray⟩ : ByteArray).data.toList, x.length ≤ 1000) ∧ Vz.parseL (Vz.linesOf (⟨(linesL L).toArray⟩ : ByteArray).data.toList) = some L := by
  rw [List.all_eq_true] at h
  have e : (⟨(linesL L).toArray⟩ : ByteArray).data.toList = L.flatMap Vz.Stp.line := rfl
  refine ⟨?_, ?_, ?_⟩
  · show (linesL L).toArray.size ≤ 20000
    have := linesL_len L h ht
    simp
    omega
  · rw [e, Vz.linesOf_lines L h]
    intro x hx
    obtain ⟨y, hy, rfl⟩ := List.mem_map.1 hx
    have := Vz.Stp.line_len y (h y hy)
    have := ht y hy
    omega
  · rw [e]
    exact Vz.parseL_lines L h
theorem small_text (s : ByteArray) (h : s.size ≤ 600) : s.size ≤ 20000 ∧ ∀ x ∈ Vz.linesOf s.data.toList, x.length ≤ 1000 :=
  ⟨by omega, fun x hx => by have := Vz.linesOf_each _ x hx; have e : s.data.toList.length = s.size := rfl; omega⟩
theorem line_ge (x : Vz.Stp) (h : x.right = true) : 0 < x.line.length := by
  obtain ⟨b, hb, _⟩ := Vz.line_lf x h
  rw [hb]; simp
theorem text_le (x : Vz.Stp) (h : x.right = true) : x.text.length ≤ x.line.length := by
  have hs := Vz.stepOf_line x h
  have h2 : Vz.toldT x.line = x := by
    unfold Vz.stepOf at hs
    split at hs
    · exact Option.some.inj hs
    · cases hs
  have := Vz.toldT_text x.line x.line.length (Nat.le_refl _)
  rwa [h2] at this
theorem lines_count (L : List Vz.Stp) (h : ∀ x ∈ L, x.right = true) : L.length ≤ (linesL L).length := by
  induction L with
  | nil => simp
  | cons x r ih =>
    have h1 := ih (fun y hy => h y (by simp [hy]))
    have h2 := line_ge x (h x (by simp))
    unfold linesL at h1 ⊢
    simp only [List.flatMap_cons, List.length_append, List.length_cons]
    omega
theorem lines_mem (L : List Vz.Stp) (x : Vz.Stp) (h : x ∈ L) : x.line.length ≤ (linesL L).length := by
  induction L with
  | nil => cases h
  | cons y r ih =>
    unfold linesL at ih ⊢
    simp only [List.flatMap_cons, List.length_append]
    rcases List.mem_cons.1 h with rfl | h
    · omega
    · have := ih h; omega
theorem lines_take (L : List Vz.Stp) (k : Nat) : (linesL (L.take k)).length ≤ (linesL L).length := by
  have : linesL L = linesL (L.take k) ++ linesL (L.drop k) := by
    unfold linesL
    rw [← List.flatMap_append, List.take_append_drop]
  rw [this]
  simp
/-- Print of what a small text parsed to is the text. -/
theorem print_back (s : ByteArray) (hs : s.size ≤ 600) (L : List Vz.Stp) (h : Vz.parseL (Vz.linesOf s.data.toList) = some L) (A : Option Addr) (c : Nat) (w : World) (hI : Steps w.heap.size w A L.length L) (hp : PowTab w) :
    Calls Tryd.prog 13 #[.slice A L.length c] w fun e w' => e = .returned (.tuple #[.string s, .int .i64 0]) ∧ Below w.heap.size w w' := by
  obtain ⟨h1, h2⟩ := Vz.parseL_some h
  rw [Vz.linesOf_flat] at h2
  have hl : linesL L = s.data.toList := h2
  have hsl : s.data.toList.length = s.size := rfl
  have hc := lines_count L h1
  have hr : L.all Vz.Stp.right = true := by rw [List.all_eq_true]; exact h1
  have hp2 := print_gen A L.length c L w hI (by rw [hl] at hc; omega) (fun x hx => by have := text_le x (h1 x hx); have := lines_mem L x hx; rw [hl] at this; omega) (fun k _ => by have := lines_take L k; rw [hl] at this; omega) hp
  refine hp2.mono ?_
  rintro e w' ⟨rfl, hb⟩
  refine ⟨?_, hb⟩
  unfold printV
  rw [hr, hl]
  rfl
end Go.Proofs.YtfkbgnonkgaobaaDoor
