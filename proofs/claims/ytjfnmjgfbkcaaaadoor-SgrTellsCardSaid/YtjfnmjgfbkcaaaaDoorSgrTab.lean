/- Walks: sgr.ons, offs, find, one. -/
import Derived.Test.YtjfnmjgfbkcaaaaDoorSgrA
import Derived.Test.YtjfnmjgfbkcaaaaDoorWords
import Derived.Deep.MidRow
namespace Go.Proofs.YtjfnmjgfbkcaaaaDoor
open Go.RowKit

/-- A slice of pairs of ints that reads as a list; its row is block b, from 0 on. -/
def Pairs (W : World) (b : Nat) (l : List (Int × Int)) : Prop :=
  ∀ i, i < l.length → W.cell? ⟨b, i * 2, none⟩ = some (.int .i64 (l[i]?.getD (0, 0)).1) ∧ W.cell? ⟨b, i * 2 + 1, none⟩ = some (.int .i64 (l[i]?.getD (0, 0)).2)
theorem Pairs.below {W W' : World} {b B : Nat} {l : List (Int × Int)} (h : Pairs W b l) (hb : Below B W W') (hB : b < B) : Pairs W' b l :=
  fun i hi => ⟨(hb.cell hB).trans (h i hi).1, (hb.cell hB).trans (h i hi).2⟩

def onsL : List (Int × Int) := [(1, 1), (2, 2), (4, 4), (5, 8), (7, 16), (8, 32)]
def offsL : List (Int × Int) := [(22, 3), (24, 4), (25, 8), (27, 16), (28, 32)]
def cellsL (l : List (Int × Int)) : Array Value := (l.flatMap fun p => [Value.int .i64 p.1, Value.int .i64 p.2]).toArray

theorem row_new (W : World) (o : Obj) : (W.alloc o).heap[W.heap.size]? = some o := by
  show (W.heap.push _)[W.heap.size]? = _
  simp
theorem pairs_ons (W : World) (t : TypeId) : Pairs (W.alloc (.cells (cellsL onsL) t)) W.heap.size onsL := by
  intro i hi
  have hg := row_new W (.cells (cellsL onsL) t)
  rw [cell_of_row _ _ _ _ _ _ hg, cell_of_row _ _ _ _ _ _ hg]
  obtain rfl | rfl | rfl | rfl | rfl | rfl : i = 0 ∨ i = 1 ∨ i = 2 ∨ i = 3 ∨ i = 4 ∨ i = 5 := by simp [onsL] at hi; omega
  all_goals exact ⟨rfl, rfl⟩
theorem pairs_offs (W : World) (t : TypeId) : Pairs (W.alloc (.cells (cellsL offsL) t)) W.heap.size offsL := by
  intro i hi
  have hg := row_new W (.cells (cellsL offsL) t)
  rw [cell_of_row _ _ _ _ _ _ hg, cell_of_row _ _ _ _ _ _ hg]
  obtain rfl | rfl | rfl | rfl | rfl : i = 0 ∨ i = 1 ∨ i = 2 ∨ i = 3 ∨ i = 4 := by simp [offsL] at hi; omega
  all_goals exact ⟨rfl, rfl⟩

theorem ons_row (w : World) :
    Calls Tryd.prog 27 #[] w fun e w' => e = .returned (.slice (some ⟨w.heap.size, 0, none⟩) 6 6) ∧ w' = w.alloc (.cells (cellsL onsL) 60) := by
  go_enter Tryd.func27, Tryd.ntmps27
  go_wp2
  go_ret
  exact ⟨rfl, rfl⟩
theorem ons_any (w : World) :
    Calls Tryd.prog 27 #[] w fun e w' => e = .returned (.slice (some ⟨w.heap.size, 0, none⟩) 6 6) ∧ Pairs w' w.heap.size onsL ∧ w'.heap.size = w.heap.size + 1 ∧ Below w.heap.size w w' := by
  go_enter Tryd.func27, Tryd.ntmps27
  go_wp2
  go_ret
  exact ⟨rfl, pairs_ons w _, World.size_alloc _ _, (Below.refl _ _).alloc (Nat.le_refl _) _⟩
theorem offs_any (w : World) :
    Calls Tryd.prog 37 #[] w fun e w' => e = .returned (.slice (some ⟨w.heap.size, 0, none⟩) 5 5) ∧ Pairs w' w.heap.size offsL ∧ w'.heap.size = w.heap.size + 1 ∧ Below w.heap.size w w' := by
  go_enter Tryd.func37, Tryd.ntmps37
  go_wp2
  go_ret
  exact ⟨rfl, pairs_offs w _, World.size_alloc _ _, (Below.refl _ _).alloc (Nat.le_refl _) _⟩

/-- A key's value. -/
def findL (l : List (Int × Int)) (k : Int) : Int × Bool :=
  match l with
  | [] => (0, false)
  | p :: r => if p.1 = k then (p.2, true) else findL r k
theorem findL_at (l : List (Int × Int)) (k : Int) (i : Nat) (hi : i < l.length) (h : ∀ j, j < i → (l[j]?.getD (0, 0)).1 ≠ k) (he : (l[i]?.getD (0, 0)).1 = k) : findL l k = ((l[i]?.getD (0, 0)).2, true) := by
  induction l generalizing i with
  | nil => cases hi
  | cons p r ih =>
    cases i with
    | zero => simp at he; unfold findL; rw [if_pos he]; rfl
    | succ i =>
      have h0 := h 0 (by omega)
      simp at h0
      unfold findL
      rw [if_neg h0, ih i (by simpa using hi) (fun j hj => by have := h (j + 1) (by omega); simpa using this) (by simpa using he)]
      simp
theorem findL_none (l : List (Int × Int)) (k : Int) (h : ∀ j, j < l.length → (l[j]?.getD (0, 0)).1 ≠ k) : findL l k = (0, false) := by
  induction l with
  | nil => rfl
  | cons p r ih =>
    have h0 := h 0 (by simp)
    simp at h0
    unfold findL
    rw [if_neg h0, ih (fun j hj => by have := h (j + 1) (by simpa using hj); simpa using this)]

set_option maxHeartbeats 2000000 in
theorem find_any (b : Nat) (l : List (Int × Int)) (c : Nat) (k : Int) (w : World) (h : Pairs w b l) (hb : b < w.heap.size) (hl : l.length ≤ 1000) :
    Calls Tryd.prog 36 #[.slice (some ⟨b, 0, none⟩) l.length c, .int .i64 k] w fun e w' => e = .returned (.tuple #[.int .i64 (findL l k).1, .bool (findL l k).2]) ∧ Below w.heap.size w w' := by
  go_enter Tryd.func36, Tryd.ntmps36
  go_wp2
  go_loopw [11] (fun i wr => ∃ j : Nat, j ≤ l.length ∧ i = .int .i64 j ∧ (∀ m, m < j → (l[m]?.getD (0, 0)).1 ≠ k) ∧ Below w.heap.size w wr) (fun i _ => l.length - (intOf i).toNat)
  case atStart => exact ⟨0, Nat.zero_le _, rfl, fun m hm => absurd hm (by omega), Below.refl _ _⟩
  case round =>
    obtain ⟨j, hj, rfl, hne, hB⟩ := hrel
    have HN := Lib.hid hne
    have HP := Lib.hid h
    clear hne h
    by_cases hlt : j < l.length
    · obtain ⟨c1, c2⟩ := HP.out j hlt
      have c1' := (hB.cell (p := ⟨b, j * 2, none⟩) hb).trans c1
      have c2' := (hB.cell (p := ⟨b, j * 2 + 1, none⟩) hb).trans c2
      clear c1 c2
      have HF := Lib.hid (findL_at l k j hlt (fun m hm => HN.out m hm))
      generalize hg : (l[j]?.getD (0, 0)) = p at c1' c2' HF
      obtain ⟨p1, p2⟩ := p
      have HG := Lib.hid hg
      clear hg
      simp only at c1' c2' HF
      by_cases he : p1 = k
      · have HE := Lib.hid (HF.out he)
        have hb1 : (p1 == k) = true := by simp [he]
        clear he
        go_wp2
        go_ret2
        exact ⟨ret_tup2 (by rw [HE.out]; rfl) (by rw [HE.out]; rfl), hB.alloc hB.size _⟩
      · have HE := Lib.hid he
        have hb1 : (p1 == k) = false := by simp [he]
        clear he
        go_wp2
        exact ⟨⟨j + 1, by omega, by go_num, fun m hm => by
          rcases Nat.lt_succ_iff_lt_or_eq.1 hm with e | e
          · exact HN.out m e
          · rw [e, HG.out]; exact HE.out, hB.alloc hB.size _⟩, by simp [intOf]; omega⟩
    · obtain rfl : j = l.length := by omega
      have HF := Lib.hid (findL_none l k HN.out)
      go_wp2
      go_ret2
      exact ⟨ret_tup2 (by rw [HF.out]; rfl) (by rw [HF.out]; rfl), hB⟩

/-- What a number makes, by the tables. -/
theorem one_tab (n : Nat) (x : Int) (h : Vz.MayP n) : x ≠ 0 →
    (((findL onsL x).2 = true ∧ (bits .or .i64 (n : Int) (findL onsL x).1 = (Vz.oneN n x : Int))) ∨
     ((findL onsL x).2 = false ∧ (findL offsL x).2 = true ∧ bits .andNot .i64 (n : Int) (findL offsL x).1 = (Vz.oneN n x : Int)) ∨
     ((findL onsL x).2 = false ∧ (findL offsL x).2 = false ∧ Vz.oneN n x = Vz.colourN n x)) := by
  intro h0
  have hn := h.1
  obtain ⟨⟨o1, o2, o4, o8⟩, o16, o32⟩ := Vz.lor_bits n hn
  obtain ⟨⟨d3, d4, d8⟩, d16, d32⟩ := Vz.clr_bits n hn
  have ho : ∀ b : Nat, b < 64 → bits .or .i64 (n : Int) (b : Int) = ((n ||| b : Nat) : Int) := fun b hb => Vz.or64 n b (by omega) (by omega)
  have hd : ∀ b : Nat, b < 64 → bits .andNot .i64 (n : Int) (b : Int) = ((n ^^^ (n &&& b) : Nat) : Int) := fun b hb => Vz.andNot64 n b (by omega) (by omega)
  by_cases x1 : x = 1
  · subst x1; exact .inl ⟨rfl, (ho 1 (by decide)).trans (by rw [o1]; rfl)⟩
  by_cases x2 : x = 2
  · subst x2; exact .inl ⟨rfl, (ho 2 (by decide)).trans (by rw [o2]; rfl)⟩
  by_cases x4 : x = 4
  · subst x4; exact .inl ⟨rfl, (ho 4 (by decide)).trans (by rw [o4]; rfl)⟩
  by_cases x5 : x = 5
  · subst x5; exact .inl ⟨rfl, (ho 8 (by decide)).trans (by rw [o8]; rfl)⟩
  by_cases x7 : x = 7
  · subst x7; exact .inl ⟨rfl, (ho 16 (by decide)).trans (by rw [o16]; rfl)⟩
  by_cases x8 : x = 8
  · subst x8; exact .inl ⟨rfl, (ho 32 (by decide)).trans (by rw [o32]; rfl)⟩
  by_cases y22 : x = 22
  · subst y22; exact .inr (.inl ⟨rfl, rfl, (hd 3 (by decide)).trans (by rw [d3]; rfl)⟩)
  by_cases y24 : x = 24
  · subst y24; exact .inr (.inl ⟨rfl, rfl, (hd 4 (by decide)).trans (by rw [d4]; rfl)⟩)
  by_cases y25 : x = 25
  · subst y25; exact .inr (.inl ⟨rfl, rfl, (hd 8 (by decide)).trans (by rw [d8]; rfl)⟩)
  by_cases y27 : x = 27
  · subst y27; exact .inr (.inl ⟨rfl, rfl, (hd 16 (by decide)).trans (by rw [d16]; rfl)⟩)
  by_cases y28 : x = 28
  · subst y28; exact .inr (.inl ⟨rfl, rfl, (hd 32 (by decide)).trans (by rw [d32]; rfl)⟩)
  refine .inr (.inr ⟨?_, ?_, ?_⟩)
  · simp only [onsL, findL, Ne.symm x1, Ne.symm x2, Ne.symm x4, Ne.symm x5, Ne.symm x7, Ne.symm x8, if_false]
  · simp only [offsL, findL, Ne.symm y22, Ne.symm y24, Ne.symm y25, Ne.symm y27, Ne.symm y28, if_false]
  · unfold Vz.oneN
    simp only [h0, x1, x2, x4, x5, x7, x8, y22, y24, y25, y27, y28, if_false]

set_option maxHeartbeats 2000000 in
theorem one_any (n : Nat) (x : Int) (h : Vz.MayP n) (w : World) :
    Calls Tryd.prog 24 #[.int .i64 n, .int .i64 x] w fun e w' => e = .returned (.int .i64 (Vz.oneN n x)) ∧ Below w.heap.size w w' := by
  by_cases h0 : x = 0
  · subst h0
    have HR : Hid (Vz.oneN n 0 = 0) := rfl
    clear h
    go_enter Tryd.func24, Tryd.ntmps24
    go_wp2
    go_ret
    exact ⟨ret1 (by rw [HR.out]; rfl), Below.refl _ _⟩
  have HF := Lib.hid (fun b l c w hp hb hl => find_any b l c x w hp hb hl)
  have HON := Lib.hid ons_any
  have HOF := Lib.hid offs_any
  have hx : (x == 0) = false := by simp [h0]
  rcases one_tab n x h h0 with ⟨a1, a2⟩ | ⟨a1, a2, a3⟩ | ⟨a1, a2, a3⟩
  · have A2 := Lib.hid a2
    have A1 := Lib.hid a1
    clear a1 a2 h h0
    go_enter Tryd.func24, Tryd.ntmps24
    go_wp2_with fail
    refine (HON.out _).mono ?_
    rintro e w1 ⟨rfl, hp, hs, hb1⟩
    go_wp2_with fail
    refine (HF.out _ onsL _ _ hp (by omega) (by decide)).mono ?_
    rintro e w2 ⟨rfl, hb2⟩
    rw [A1.out]
    go_wp2_with fail
    go_ret
    exact ⟨ret1 (by rw [← A2.out]; rfl), below_join hb1 hb2⟩
  · have A3 := Lib.hid a3
    have A2 := Lib.hid a2
    have A1 := Lib.hid a1
    clear a1 a2 a3 h h0
    go_enter Tryd.func24, Tryd.ntmps24
    go_wp2_with fail
    refine (HON.out _).mono ?_
    rintro e w1 ⟨rfl, hp, hs, hb1⟩
    go_wp2_with fail
    refine (HF.out _ onsL _ _ hp (by omega) (by decide)).mono ?_
    rintro e w2 ⟨rfl, hb2⟩
    rw [A1.out]
    go_wp2_with fail
    refine (HOF.out _).mono ?_
    rintro e w3 ⟨rfl, hp3, hs3, hb3⟩
    go_wp2_with fail
    refine (HF.out _ offsL _ _ hp3 (by omega) (by decide)).mono ?_
    rintro e w4 ⟨rfl, hb4⟩
    rw [A2.out]
    go_wp2_with fail
    go_ret
    exact ⟨ret1 (by rw [← A3.out]; rfl), below_join (below_join hb1 hb2) (below_join hb3 hb4)⟩
  · have A3 := Lib.hid a3
    have A2 := Lib.hid a2
    have A1 := Lib.hid a1
    have HC := Lib.hid (fun w => colour_any n x h w)
    clear a1 a2 a3 h h0
    go_enter Tryd.func24, Tryd.ntmps24
    go_wp2_with fail
    refine (HON.out _).mono ?_
    rintro e w1 ⟨rfl, hp, hs, hb1⟩
    go_wp2_with fail
    refine (HF.out _ onsL _ _ hp (by omega) (by decide)).mono ?_
    rintro e w2 ⟨rfl, hb2⟩
    rw [A1.out]
    go_wp2_with fail
    refine (HOF.out _).mono ?_
    rintro e w3 ⟨rfl, hp3, hs3, hb3⟩
    go_wp2_with fail
    refine (HF.out _ offsL _ _ hp3 (by omega) (by decide)).mono ?_
    rintro e w4 ⟨rfl, hb4⟩
    rw [A2.out]
    go_wp2_with fail
    refine (HC.out _).mono ?_
    rintro e w5 ⟨rfl, rfl⟩
    go_wp2_with fail
    go_ret
    exact ⟨ret1 (by rw [A3.out]; rfl), below_join (below_join hb1 hb2) (below_join hb3 hb4)⟩
end Go.Proofs.YtjfnmjgfbkcaaaaDoor
