import Derived.Test.YtmgeghoalmonoaaGreatDoorAnC
import Derived.Test.YtmgeghoalmonoaaGreatDoorRP

/- Walks of ANSI.SYS: what is done of numbers: Or, place, clear, rest, steps, the saved place. -/
namespace Go.Proofs.YtmgeghoalmonoaaGreatDoor
open Go.RowKit
set_option linter.unusedSimpArgs false
set_option linter.unusedVariables false
set_option maxRecDepth 100000
attribute [local go_sem] alloc_drewN setCell_drewN World.cell?_alloc_some frozen_alloc_some pos_f1

/-- Numbers in memory. -/
def NumsAt (W : World) (v : Value) (l : List Int) : Prop := W.ownsRow 0 3 1 v l.length (l.map (Value.int .i64))
theorem NumsAt.below {W W' : World} {v : Value} {l : List Int} (h : NumsAt W v l) (hb : Below W.heap.size W W') : NumsAt W' v l :=
  h.kept (row := none) ⟨hb.os, hb.tape, hb.output, hb.size, fun i hi _ => hb.block i hi⟩ (by cases v.ownBlock <;> simp)
theorem NumsAt.cell {W : World} {v : Value} {l : List Int} (h : NumsAt W v l) : ∃ a cap, v = .slice a l.length cap ∧ ∀ i x, l[i]? = some x → ∃ g, a = some ⟨g, 0, none⟩ ∧ W.cell? ⟨g, i, none⟩ = some (.int .i64 x) := by
  obtain ⟨a, cap, rfl⟩ := ownsRow_slice h
  refine ⟨a, cap, rfl, fun i x hx => ?_⟩
  rcases h.2 with ⟨hv, h0⟩ | ⟨g, cap', cur, hv, _⟩
  · have := (List.getElem?_eq_some_iff.1 hx).1
    omega
  · injection hv with h1 h2 h3
    subst h1
    refine ⟨g, rfl, ?_⟩
    have := World.ownsRow.cells h (g := g) rfl i (.int .i64 x) (by simp [hx])
    have e : (⟨g, 0, none⟩ : Addr).add i = ⟨g, i, none⟩ := by
      by_cases hz : i = 0
      · subst hz; rfl
      · simp [Addr.add, hz]
    rw [e] at this
    exact this
set_option maxHeartbeats 4000000 in
theorem or_ok {v : Value} {l : List Int} (i : Nat) (hi : i ≤ 1) (d : Int) (w : World) (h : NumsAt w v l) (hl : l.length ≤ 100000) : Calls Tryz.prog 87 #[v, .int .i64 (i : Int), .int .i64 d] w fun e w' => e = .returned (.int .i64 (orN l i d)) ∧ w' = w := by
  obtain ⟨a, cap, rfl, hc⟩ := h.cell
  clear h
  have h0 : ¬ (i : Int) < 0 := by omega
  by_cases hlt : i < l.length
  · have hz : (i : Int) < (l.length : Int) := by omega
    have hz0 : (0 : Int) ≤ (i : Int) := by omega
    obtain ⟨x, hx⟩ : ∃ x, l[i]? = some x := ⟨_, List.getElem?_eq_getElem hlt⟩
    obtain ⟨g, rfl, hg⟩ := hc i x hx
    clear hc
    by_cases hneg : x < 0
    · have HO : Hid (orN l i d = d) := by show orN l i d = d; unfold orN; rw [hx]; exact if_neg (fun h => by have := h.2; simp only [Option.getD_some] at this; omega)
      clear hx
      go_enter Tryz.func87, Tryz.ntmps87
      go_wp2_with fail
      go_ret
      rw [HO.out]
      exact ⟨rfl, rfl⟩
    · have HO : Hid (orN l i d = x) := by show orN l i d = x; unfold orN; rw [hx]; exact if_pos ⟨hlt, by simp only [Option.getD_some]; omega⟩
      clear hx
      go_enter Tryz.func87, Tryz.ntmps87
      go_wp2_with fail
      go_ret
      rw [HO.out]
      exact ⟨rfl, rfl⟩
  · have hz : (l.length : Int) ≤ (i : Int) := by omega
    have HO : Hid (orN l i d = d) := by show orN l i d = d; unfold orN; exact if_neg (fun h => hlt h.1)
    clear hc
    go_enter Tryz.func87, Tryz.ntmps87
    go_wp2_with fail
    go_ret
    rw [HO.out]
    exact ⟨rfl, rfl⟩
def NumB (l : List Int) : Prop := l.length ≤ 100000 ∧ ∀ x ∈ l, x ≤ 1000000
theorem orN_le {l : List Int} (h : NumB l) (i : Nat) (d : Int) (h0 : 0 ≤ d) (h1 : d ≤ 1) : 0 ≤ orN l i d ∧ orN l i d ≤ 1000000 := by
  unfold orN
  split
  · rename_i hh
    refine ⟨hh.2, ?_⟩
    have := h.2 (l[i]'hh.1) (List.getElem_mem hh.1)
    rw [List.getElem?_eq_getElem hh.1]
    exact this
  · omega
section
variable {w : World} {P : Pt} {G : Nat → Prop} {A : An} {v : Value} {l : List Int}
set_option maxHeartbeats 4000000 in
theorem an_place (h : AnW w P G A) (hn : NumsAt w v l) (hb : NumB l) : Calls Tryz.prog 67 #[.pointer (some ⟨P.tp, 0, none⟩), v] w fun e w' => e = .returned (.tuple #[]) ∧ AnTo w w' P G (moveN A ⟨max (orN l 0 1) 1 - 1, max (orN l 1 1) 1 - 1⟩) := by
  have HA := Lib.hid (fun W (hb : Below w.heap.size w W) => h.below hb)
  have HN := Lib.hid (fun W (hb : Below w.heap.size w W) => hn.below hb)
  have o1 := orN_le hb 0 1 (by decide) (by decide)
  have o2 := orN_le hb 1 1 (by decide) (by decide)
  have HL := Lib.hid hb.1
  have HOR := Lib.hid (fun (i : Nat) (hi : i ≤ 1) (d : Int) W (hb : Below w.heap.size w W) => or_ok i hi d W (HN.out W hb) HL.out)
  clear h hn hb
  obtain ⟨x, hx⟩ : ∃ x, orN l 0 1 = x := ⟨_, rfl⟩
  obtain ⟨y, hy⟩ : ∃ y, orN l 1 1 = y := ⟨_, rfl⟩
  have HX := Lib.hid hx
  have HY := Lib.hid hy
  rw [hx] at o1 ⊢
  rw [hy] at o2 ⊢
  clear hx hy
  have e1 : IntKind.i64.wrap (max x 1 - 1) = max x 1 - 1 := wrap_in (by omega) (by omega)
  have e2 : IntKind.i64.wrap (max y 1 - 1) = max y 1 - 1 := wrap_in (by omega) (by omega)
  clear o1 o2
  go_enter Tryz.func67, Tryz.ntmps67
  go_upto_region 0 with fail
  have HB0 : Hid (Below w.heap.size w w.drew) := (Below.refl _ _).drew
  refine wp_region_noPanic ?_
  refine wp_region_k (S := fun W : World => Below w.heap.size w W) 13 (by kernel_rfl) (HB0.out) (fun hHeld => ?_)
  refine kSK 0 hHeld ?_
  refine kSK 1 hHeld ?_
  refine kSK 2 hHeld ?_
  refine kTK (v := ?_) 3 [] hHeld ?y4 ?_
  case y4 => (intro W hSw; obtain ⟨⟨y0, _⟩, _⟩ := (HA.out _ hSw).cells; go_simp; try with_reducible rfl)
  refine kSK 4 hHeld ?_
  try refine kNK ?_
  refine kSK 8 hHeld ?_
  try refine kNK ?_
  refine kOK 5 fun KQ hKQ => ?_
  go_simp
  go_at_call 87
  refine (HOR.out 0 (by decide) 1 _ HB0.out).mono ?_
  rintro e w1 ⟨rfl, rfl⟩
  rw [HX.out]
  go_wp2_with fail
  refine hKQ.out _ _ (hHeld) ?_
  clear hHeld hKQ KQ
  intro hHeld
  try refine kNK ?_
  refine kSK 6 hHeld ?_
  refine kSK 7 hHeld ?_
  try refine kNK ?_
  refine kOK 9 fun KQ hKQ => ?_
  go_simp
  go_at_call 87
  refine (HOR.out 1 (by decide) 1 _ HB0.out).mono ?_
  rintro e w1 ⟨rfl, rfl⟩
  rw [HY.out]
  go_wp2_with fail
  refine hKQ.out _ _ (hHeld) ?_
  clear hHeld hKQ KQ
  intro hHeld
  try refine kNK ?_
  refine kSK 10 hHeld ?_
  refine kSK 11 hHeld ?_
  refine kSK 12 hHeld ?_
  try refine kNK ?_
  refine kPK 13 fun KQ hKQ => ?_
  go_simp
  go_at_call 40
  obtain ⟨F, hs, hto⟩ := (HA.out _ HB0.out).scrTo
  refine (scr_move P.sp F A.S ⟨max x 1 - 1, max y 1 - 1⟩ _ hs).mono ?_
  rintro e w3 ⟨rfl, ht⟩
  have HT := Lib.hid (AnTo.after HB0.out (hto _ _ ht))
  clear ht hto hs
  go_wp2_with fail
  refine hKQ.out _ _ ?_
  clear hKQ KQ
  try refine kNK ?_
  refine wpAnyK_done (by kernel_rfl) ?_ _
  refine NoPanic.normal ?_
  go_wp2_with fail
  go_end0
  exact ⟨rfl, HT.out⟩
set_option maxHeartbeats 4000000 in
theorem an_clear (h : AnW w P G A) (hn : NumsAt w v l) (hb : NumB l) : Calls Tryz.prog 68 #[.pointer (some ⟨P.tp, 0, none⟩), v] w fun e w' => e = .returned (.tuple #[]) ∧ AnTo w w' P G (if orN l 0 0 = 2 then moveN (wipeN A ⟨0, 0⟩ (endP A) A.attr) ⟨0, 0⟩ else A) := by
  have HA := Lib.hid (fun W (hb : Below w.heap.size w W) => h.below hb)
  have HOR := Lib.hid (or_ok 0 (by decide) 0 w hn hb.1)
  have HRE := Lib.hid (AnTo.refl h)
  clear h hn hb
  obtain ⟨x, hx⟩ : ∃ x, orN l 0 0 = x := ⟨_, rfl⟩
  rw [hx] at HOR ⊢
  clear hx
  go_enter Tryz.func68, Tryz.ntmps68
  by_cases hx : x = 2
  · rw [if_pos hx]
    subst hx
    go_upto_region 1 with (go_at_call 87; refine HOR.out.mono ?_; rintro e w1 ⟨rfl, rfl⟩)
    have HB0 : Hid (Below w1.heap.size w1 w1.drew) := (Below.refl _ _).drew
    refine wp_region_noPanic ?_
    refine wp_region_k (S := fun W : World => Below w1.heap.size w1 W) 9 (by kernel_rfl) (HB0.out) (fun hHeld => ?_)
    refine kSK 0 hHeld ?_
    refine kSK 1 hHeld ?_
    refine kSK 2 hHeld ?_
    refine kSK 4 hHeld ?_
    refine kSK 5 hHeld ?_
    try refine kNK ?_
    refine kSK 6 hHeld ?_
    refine kSK 7 hHeld ?_
    refine kTK (v := ?_) 8 [] hHeld ?y8 ?_
    case y8 => (intro W hSw; obtain ⟨⟨_, _, _, y3, _⟩, _⟩ := (HA.out _ hSw).cells; go_simp; try with_reducible rfl)
    try refine kNK ?_
    refine kOK 3 fun KQ hKQ => ?_
    go_simp
    go_at_call 39
    refine (an_end (HA.out _ hHeld)).mono ?_
    rintro e w2 ⟨rfl, hb2⟩
    go_wp2_with fail
    refine hKQ.out _ _ (hHeld.trans (hb2.mono hHeld.size)) ?_
    clear hHeld hKQ KQ
    intro hHeld
    try refine kNK ?_
    refine kPK 9 fun KQ hKQ => ?_
    go_simp
    go_at_call 38
    refine (an_wipe (HA.out _ hHeld) ⟨0, 0⟩ (endP A) A.attr).mono ?_
    rintro e w3 ⟨rfl, ht⟩
    have HT := Lib.hid (AnTo.after hHeld ht)
    clear ht
    go_wp2_with fail
    refine hKQ.out _ _ ?_
    clear hKQ KQ
    try refine kNK ?_
    refine wpAnyK_done (by kernel_rfl) ?_ _
    refine NoPanic.normal ?_
    obtain ⟨⟨G3, h3, hg3⟩, hk3⟩ := HT.out
    have HG3 := Lib.hid hg3
    have HK3 := Lib.hid hk3
    have H3 := Lib.hid h3
    clear hg3 hk3 h3
    obtain ⟨⟨z0, _⟩, _⟩ := H3.out.cells
    obtain ⟨F, hs, hto⟩ := H3.out.scrTo
    have HM := Lib.hid (scr_move P.sp F (wipeN A ⟨0, 0⟩ (endP A) A.attr).S ⟨0, 0⟩ _ hs)
    have HTO := Lib.hid hto
    clear hs hto
    go_wp2_with (go_at_call 40; refine HM.out.mono ?_; rintro e w4 ⟨rfl, ht⟩; have HT4 := Lib.hid (HTO.out _ _ ht); clear ht)
    go_end0
    exact ⟨rfl, AnTo.link HG3.out HK3.out HT4.out⟩
  · rw [if_neg hx]
    have hx' : (x == 2) = false := beq_eq_false_iff_ne.2 hx
    clear hx
    go_wp2_with (go_at_call 87; refine HOR.out.mono ?_; rintro e w1 ⟨rfl, rfl⟩)
    go_end0
    exact ⟨rfl, HRE.out⟩
end
end Go.Proofs.YtmgeghoalmonoaaGreatDoor
