import Derived.Test.YteoeooijpjehpaaGreatDoorIF
import Derived.Test.YteoeooijpjehpaaGreatDoorHO
import Derived.ScopeJumps
import Derived.WalkMore
import Derived.Laws.EntriesVeiled

set_option maxRecDepth 100000
set_option maxHeartbeats 16000000
namespace Go.Proofs.YteoeooijpjehpaaGreatDoor
open Go.RowKit
set_option linter.unusedSimpArgs false
set_option linter.unusedVariables false
/- Walks: package field: the first field of which something is true. -/
section
attribute [local go_sem] alloc_drewN setCell_drewN World.cell?_alloc_some frozen_alloc_some size_f0 size_f1 Oper.semAt_some
theorem find_pre {α : Type} {f : α → Bool} {l l' : List α} {q : α} (h : l.find? f = some q) (hp : l <+: l') : l'.find? f = some q := by
 obtain ⟨r, rfl⟩ := hp
 rw [List.find?_append, h]
 rfl
theorem find_end {α : Type} {f : α → Bool} {l : List α} {q : α} (h : l.find? f = none) : (l ++ [q]).find? f = if f q = true then some q else none := by
 rw [List.find?_append, h]
 cases hq : f q <;> simp [List.find?, hq]
theorem set_three' {W : World} {g : Nat} {a b c : Value} {t : TypeId} (h : W.heap[g]? = some (.cells #[a, b, c] t (0, 0))) (x y z : Value) : (((W.setCell ⟨g, 0, none⟩ x).setCell ⟨g, 1, none⟩ y).setCell ⟨g, 2, none⟩ z).heap[g]? = some (.cells #[x, y, z] t (0, 0)) :=
 heap_set_same (heap_set_same (heap_set_same h 0 x) 1 y) 2 z
def fldC (x : FT) : Array Value := #[.int .i64 (x.1 : Int), .int .i64 (x.2.1 : Int), .int .i64 (x.2.2 : Int)]
def TestF (D : Vz.Gd) (fn : Nat) (caps : Array Value) (φ : FT → Bool) (w : World) : Prop :=
 ∀ (x : FT) (W' : World), Below w.heap.size w W' → (∃ pre, pre ++ [x] <+: allF D) → Calls Tryz.prog fn (#[.agg (fldC x)] ++ caps) W' fun e w'' => e = .returned (.bool (φ x)) ∧ Below W'.heap.size W' w''
def findR (o : Option FT) : Value :=
 match o with
 | none => .tuple #[.agg #[.int .i64 0, .int .i64 0, .int .i64 0], .bool false]
 | some x => .tuple #[.agg (fldC x), .bool true]
theorem first_in (n : Nat) (hn : 3 ≤ n) (rb B OB : Nat) (D : Vz.Gd) (G K : Nat → Nat) (hm : D.may) (fn : Nat) (caps : Array Value) (φ : FT → Bool) (w : World) (hG : FldG rb B OB D G K w) (heg : ∀ (args : Array Value) (W : World), Sem.run Tryz.prog (callFunc fn args) W = .ok (.enter fn args) W) (hP : TestF D fn caps φ w) :
 CallsIn Fence.wide n Tryz.prog 156 #[.func (.func 193) #[] #[.pointer (some ⟨rb, 0, none⟩)], .func (.func fn) #[] caps] w fun e w' => e = .returned (findR ((allF D).find? φ)) ∧ Below w.heap.size w w' := by
 have h1 : 1 ≤ n := by omega
 have HP := Lib.hid hP
 have HG := Lib.hid hG
 obtain ⟨n0, n1, n2, nb⟩ := box3 (Below.refl (((w.alloc (.cells #[.func (.func fn) #[] caps] 198)).alloc (.cells #[.int .i64 0, .int .i64 0, .int .i64 0] 191)).alloc (.cells #[.bool false] 4)).heap.size (((w.alloc (.cells #[.func (.func fn) #[] caps] 198)).alloc (.cells #[.int .i64 0, .int .i64 0, .int .i64 0] 191)).alloc (.cells #[.bool false] 4)))
 have hz3 : (((w.alloc (.cells #[.func (.func fn) #[] caps] 198)).alloc (.cells #[.int .i64 0, .int .i64 0, .int .i64 0] 191)).alloc (.cells #[.bool false] 4)).heap.size = w.heap.size + 1 + 1 + 1 := by simp
 have HN := Lib.hid (show _ ∧ _ ∧ _ ∧ _ from ⟨n0, n1, n2, nb⟩)
 have HZ3 := Lib.hid hz3
 clear hG hP n0 n1 n2 nb hz3
 refine callsIn_of_wp_marks Tryz.func156 rfl trivial ?_ rfl
 simp only [Tryz.ntmps156, List.size_toArray, List.length_cons, List.length_nil, Nat.reduceAdd, Nat.reduceSub, Array.replicate_succ, Array.replicate_zero, List.push_toArray, List.append_toArray, List.nil_append, List.cons_append]
 gi_wp2
 obtain ⟨n0, n1, n2, nb⟩ := HN.out
 have hG3 : FldG rb B OB D G K (((w.alloc (.cells #[.func (.func fn) #[] caps] 198)).alloc (.cells #[.int .i64 0, .int .i64 0, .int .i64 0] 191)).alloc (.cells #[.bool false] 4)) := ⟨(nb.block _ (block_lt HG.out.1)).trans HG.out.1, HG.out.2.below nb⟩
 refine wpIn_rangeFunc_T rfl h1 (gf := 193) (lb := #[.pointer (some ⟨rb, 0, none⟩)]) rfl trivial (enters_of Tryz.func193 (by kernel_rfl) rfl)
  (fall_stops (n - 1) (by omega) rb B OB D G K hm (fun _ _ => True) _) (fun _ _ => trivial) (fun W l o o' _ _ _ _ => trivial) (Below.refl _ _) (fun _ => rfl)
  (fun pre W => FldG rb B OB D G K W ∧ W.heap[w.heap.size]? = some (.cells #[.func (.func fn) #[] caps] 198 (0, 0)) ∧ W.heap[w.heap.size + 1]? = some (.cells #[.int .i64 0, .int .i64 0, .int .i64 0] 191 (0, 0)) ∧ W.heap[w.heap.size + 1 + 1]? = some (.cells #[.bool false] 4 (0, 0)) ∧ Below w.heap.size w W ∧ pre.find? φ = none)
  (fun c pre W => c = .ret ∧ ∃ x : FT, pre.find? φ = some x ∧ W.heap[w.heap.size + 1]? = some (.cells (fldC x) 191 (0, 0)) ∧ W.heap[w.heap.size + 1 + 1]? = some (.cells #[.bool true] 4 (0, 0)) ∧ Below w.heap.size w W)
  ?hI ?hIx ?hT ?hGd ?h0
  (fun x b => { tmps := #[.func (.func 193) #[] #[.pointer (some ⟨rb, 0, none⟩)], .func (.func fn) #[] caps, undef, .pointer (some ⟨w.heap.size, 0, none⟩), .pointer (some ⟨w.heap.size + 1, 0, none⟩), .pointer (some ⟨w.heap.size + 1 + 1, 0, none⟩), .pointer (some ⟨b, 0, none⟩), undef, .func (.func 193) #[] #[.pointer (some ⟨rb, 0, none⟩)], .agg (fldC x), undef, undef, undef, undef, undef], defers := [] })
  (fun x W => W.alloc (.cells (fldC x) 191)) (fun x b W => W.heap[b]? = some (.cells (fldC x) 191 (0, 0)))
  (fun x W => grown_of_below (below1 W _)) (fun x W => trivial) (fun x W => heap_alloc_new W _) (fun p A B row h hg hr => cells_kept hg hr h) ?assign ?body ?done ?stop
 case hI =>
  rintro pre X Y rw ⟨⟨i9, hR⟩, i0, i1, i2, hB, hf⟩ hgr hrow
  exact ⟨⟨cells_kept hgr hrow i9, hR.kept hgr (fun r e => ⟨Nat.zero_le _, (hrow r e).2⟩)⟩, cells_kept hgr hrow i0, cells_kept hgr hrow i1, cells_kept hgr hrow i2, below_own (by rw [HZ3.out]; omega) hB hgr hrow, hf⟩
 case hIx =>
  rintro c pre X Y rw ⟨hc, x, hx, i1, i2, hB⟩ hgr hrow
  exact ⟨hc, x, hx, cells_kept hgr hrow i1, cells_kept hgr hrow i2, below_own (by rw [HZ3.out]; omega) hB hgr hrow⟩
 case hT => exact fun p A B row h _ _ => h
 case hGd => exact fun s A h => h.1
 case h0 => exact ⟨hG3, n0, n1, n2, nb, rfl⟩
 case assign =>
  intro l x W K hK
  unfold fldC fldV at *
  generalize x.1 = x1 at *
  generalize x.2.1 = x2 at *
  generalize x.2.2 = x3 at *
  gi_wp2
  exact hK
 case body =>
  rintro l pre x b W hb ⟨hg, i0, i1, i2, hB, hfd⟩ hpre bx0
  have hb' : w.heap.size + 1 + 1 + 1 ≤ b := by rw [HZ3.out] at hb; exact hb
  have hfs := find_end (q := x) hfd
  have hpr := HP.out x W hB ⟨pre, hpre⟩
  have HPR := Lib.hid hpr
  have HFS : Hid (φ x = true → (pre ++ [x]).find? φ = some x) := fun k => by rw [hfs, if_pos k]
  have HFN : Hid (φ x = false → (pre ++ [x]).find? φ = none) := fun k => by rw [hfs, if_neg (by rw [k]; decide)]
  have HI := Lib.hid (show _ ∧ _ ∧ _ ∧ _ ∧ _ from ⟨hg, i0, i1, i2, hB⟩)
  have HBX := Lib.hid bx0
  have hszW : w.heap.size + 1 + 1 < W.heap.size := block_lt i2
  obtain ⟨p0, p1, p2, _⟩ := row3 bx0
  have g0 : W.cell? ⟨w.heap.size, 0, none⟩ = some (.func (.func fn) #[] caps) := cell_row i0 0
  clear hg i0 i1 i2 hB hfd hpre bx0 hfs hpr hG3 n0 n1 n2 nb
  unfold fldC at *
  generalize hQP : ownPostG _ _ _ _ _ _ = QP
  have HQP := Lib.hid hQP
  clear hQP
  cases hgd : φ x
  · rw [hgd] at HPR
    gi_wp2_with (refine ⟨trivial, (fun h => by cases h), ?_⟩; refine (CallsIn.inRound l (callsIn_wide.2 HPR.out)).mono ?_; rintro e w4 ⟨rfl, hb4⟩; have HB4 := Lib.hid hb4; clear hb4 p0 p1 p2 g0)
    have hbW := HB4.out
    rw [← HQP.out]
    obtain ⟨⟨i9, hR⟩, i0, i1, i2, hB⟩ := HI.out
    refine ⟨(Keeps.of_below hbW : Keeps (fun _ => False) W _).from (fun k hk => hk.elim), trivial, ⟨(hbW.block _ (block_lt i9)).trans i9, hR.below hbW⟩, (hbW.block _ (block_lt i0)).trans i0, (hbW.block _ (block_lt i1)).trans i1, (hbW.block _ (block_lt i2)).trans i2, Below.later hB hbW hB.size, HFN.out hgd⟩
  · rw [hgd] at HPR
    gi_wp2_with (refine ⟨trivial, (fun h => by cases h), ?_⟩; refine (CallsIn.inRound l (callsIn_wide.2 HPR.out)).mono ?_; rintro e w4 ⟨rfl, hb4⟩; have HB4 := Lib.hid hb4; clear p0 p1 p2 g0; obtain ⟨p0, p1, p2, _⟩ := row3 ((hb4.block _ (block_lt HBX.out)).trans HBX.out); obtain ⟨a0, a1, a2, fa0, fa1, fa2⟩ := row3 ((hb4.block _ (block_lt HI.out.2.2.1)).trans HI.out.2.2.1); have c0 : w4.cell? ⟨w.heap.size + 1 + 1, 0, none⟩ = some (.bool false) := cell_row ((hb4.block _ (block_lt HI.out.2.2.2.1)).trans HI.out.2.2.2.1) 0; have fc0 := frozen_row ((hb4.block _ (block_lt HI.out.2.2.2.1)).trans HI.out.2.2.2.1) 0; clear hb4)
    have hbW := HB4.out
    have hB6 := Below.later HI.out.2.2.2.2 hbW HI.out.2.2.2.2.size
    have k3 := (hbW.block _ (block_lt HI.out.2.2.1)).trans HI.out.2.2.1
    have k4 := (hbW.block _ (block_lt HI.out.2.2.2.1)).trans HI.out.2.2.2.1
    rw [← HQP.out]
    clear p0 p1 p2 a0 a1 a2 fa0 fa1 fa2 c0 fc0
    refine ⟨Keeps.from (F := fun k => k = w.heap.size + 1 ∨ k = w.heap.size + 1 + 1) (((((Keeps.of_below hbW).setCell' (p := ⟨w.heap.size + 1, 0, none⟩) (.inl rfl) _).setCell' (p := ⟨w.heap.size + 1, 1, none⟩) (.inl rfl) _).setCell' (p := ⟨w.heap.size + 1, 2, none⟩) (.inl rfl) _).setCell' (p := ⟨w.heap.size + 1 + 1, 0, none⟩) (.inr rfl) _) (fun k hk => by rw [HZ3.out]; omega), rfl, x, HFS.out hgd, ?_, ?_, ?_⟩
    · exact (heap_setCell_other _ _ _ _ (by show w.heap.size + 1 ≠ _; simp)).trans (set_three' k3 _ _ _)
    · exact set_one ((heap_setCell_other _ _ _ _ (by show w.heap.size + 1 + 1 ≠ _; simp)).trans ((heap_setCell_other _ _ _ _ (by show w.heap.size + 1 + 1 ≠ _; simp)).trans ((heap_setCell_other _ _ _ _ (by show w.heap.size + 1 + 1 ≠ _; simp)).trans k4))) _
    · exact (((hB6.setCell (p := ⟨w.heap.size + 1, 0, none⟩) (by show w.heap.size ≤ w.heap.size + 1; omega) _).setCell (p := ⟨w.heap.size + 1, 1, none⟩) (by show w.heap.size ≤ w.heap.size + 1; omega) _).setCell (p := ⟨w.heap.size + 1, 2, none⟩) (by show w.heap.size ≤ w.heap.size + 1; omega) _).setCell (p := ⟨w.heap.size + 1 + 1, 0, none⟩) (by show w.heap.size ≤ w.heap.size + 1 + 1; omega) _
 case done =>
  rintro E ys W hE rfl ⟨hg, i0, i1, i2, hB, hfd⟩ hK
  have HON := Lib.hid (show findR ((allF D).find? φ) = .tuple #[.agg #[.int .i64 0, .int .i64 0, .int .i64 0], .bool false] from by rw [hfd]; rfl)
  have hE' : w.heap.size + 1 + 1 + 1 ≤ E := by rw [HZ3.out] at hE; exact hE
  have HB7 := Lib.hid hB
  have HK := Lib.hid hK
  have HI1 := Lib.hid i1
  have HI2 := Lib.hid i2
  obtain ⟨a0, a1, a2, fa0, fa1, fa2⟩ := row3 ((Below.heap_alloc W (.cells #[.int .i64 0, .int .i64 0, .int .i64 0] 191) _ (block_lt i1)).trans i1)
  have c0 : (W.alloc (.cells #[.int .i64 0, .int .i64 0, .int .i64 0] 191)).cell? ⟨w.heap.size + 1 + 1, 0, none⟩ = some (.bool false) := cell_row ((Below.heap_alloc W (.cells #[.int .i64 0, .int .i64 0, .int .i64 0] 191) _ (block_lt i2)).trans i2) 0
  have fc0 := frozen_row ((Below.heap_alloc W (.cells #[.int .i64 0, .int .i64 0, .int .i64 0] 191) _ (block_lt i2)).trans i2) 0
  obtain ⟨q0, q1, q2, _⟩ := row3 (heap_alloc_new W (.cells #[.int .i64 0, .int .i64 0, .int .i64 0] 191))
  clear hg i0 i1 i2 hB hfd hK hG3 n0 n1 n2 nb
  gi_wp2
  have hx1 : (((((W.alloc (.cells #[.int .i64 0, .int .i64 0, .int .i64 0] 191)).setCell ⟨w.heap.size + 1, 0, none⟩ (.int .i64 0)).setCell ⟨w.heap.size + 1, 1, none⟩ (.int .i64 0)).setCell ⟨w.heap.size + 1, 2, none⟩ (.int .i64 0)).setCell ⟨w.heap.size + 1 + 1, 0, none⟩ (.bool false)).heap[w.heap.size + 1]? = some (.cells #[.int .i64 0, .int .i64 0, .int .i64 0] 191 (0, 0)) := (heap_setCell_other _ _ _ _ (by show w.heap.size + 1 ≠ _; simp)).trans (set_three' ((Below.heap_alloc W (.cells #[.int .i64 0, .int .i64 0, .int .i64 0] 191) _ (block_lt HI1.out)).trans HI1.out) _ _ _)
  have hx2 : (((((W.alloc (.cells #[.int .i64 0, .int .i64 0, .int .i64 0] 191)).setCell ⟨w.heap.size + 1, 0, none⟩ (.int .i64 0)).setCell ⟨w.heap.size + 1, 1, none⟩ (.int .i64 0)).setCell ⟨w.heap.size + 1, 2, none⟩ (.int .i64 0)).setCell ⟨w.heap.size + 1 + 1, 0, none⟩ (.bool false)).heap[w.heap.size + 1 + 1]? = some (.cells #[.bool false] 4 (0, 0)) := set_one ((heap_setCell_other _ _ _ _ (by show w.heap.size + 1 + 1 ≠ _; simp)).trans ((heap_setCell_other _ _ _ _ (by show w.heap.size + 1 + 1 ≠ _; simp)).trans ((heap_setCell_other _ _ _ _ (by show w.heap.size + 1 + 1 ≠ _; simp)).trans ((Below.heap_alloc W (.cells #[.int .i64 0, .int .i64 0, .int .i64 0] 191) _ (block_lt HI2.out)).trans HI2.out)))) _
  have hK7 : (((((W.alloc (.cells #[.int .i64 0, .int .i64 0, .int .i64 0] 191)).setCell ⟨w.heap.size + 1, 0, none⟩ (.int .i64 0)).setCell ⟨w.heap.size + 1, 1, none⟩ (.int .i64 0)).setCell ⟨w.heap.size + 1, 2, none⟩ (.int .i64 0)).setCell ⟨w.heap.size + 1 + 1, 0, none⟩ (.bool false)).heap[E]? = some (.deferred (some [])) := (heap_setCell_other _ _ _ _ (by show E ≠ w.heap.size + 1 + 1; omega)).trans ((heap_setCell_other _ _ _ _ (by show E ≠ w.heap.size + 1; omega)).trans ((heap_setCell_other _ _ _ _ (by show E ≠ w.heap.size + 1; omega)).trans ((heap_setCell_other _ _ _ _ (by show E ≠ w.heap.size + 1; omega)).trans ((Below.heap_alloc W (.cells #[.int .i64 0, .int .i64 0, .int .i64 0] 191) _ (block_lt HK.out)).trans HK.out))))
  have hB8 : Below w.heap.size w (((((W.alloc (.cells #[.int .i64 0, .int .i64 0, .int .i64 0] 191)).setCell ⟨w.heap.size + 1, 0, none⟩ (.int .i64 0)).setCell ⟨w.heap.size + 1, 1, none⟩ (.int .i64 0)).setCell ⟨w.heap.size + 1, 2, none⟩ (.int .i64 0)).setCell ⟨w.heap.size + 1 + 1, 0, none⟩ (.bool false)) := ((((HB7.out.alloc HB7.out.size _).setCell (p := ⟨w.heap.size + 1, 0, none⟩) (by show w.heap.size ≤ w.heap.size + 1; omega) _).setCell (p := ⟨w.heap.size + 1, 1, none⟩) (by show w.heap.size ≤ w.heap.size + 1; omega) _).setCell (p := ⟨w.heap.size + 1, 2, none⟩) (by show w.heap.size ≤ w.heap.size + 1; omega) _).setCell (p := ⟨w.heap.size + 1 + 1, 0, none⟩) (by show w.heap.size ≤ w.heap.size + 1 + 1; omega) _
  generalize (((((W.alloc (.cells #[.int .i64 0, .int .i64 0, .int .i64 0] 191)).setCell ⟨w.heap.size + 1, 0, none⟩ (.int .i64 0)).setCell ⟨w.heap.size + 1, 1, none⟩ (.int .i64 0)).setCell ⟨w.heap.size + 1, 2, none⟩ (.int .i64 0)).setCell ⟨w.heap.size + 1 + 1, 0, none⟩ (.bool false)) = WZ at *
  obtain ⟨z0, z1, z2, _⟩ := row3 ((World.putObj_heap_other (o := .deferred none) (show w.heap.size + 1 ≠ E by omega)).trans hx1)
  have z3 := cell_row ((World.putObj_heap_other (o := .deferred none) (show w.heap.size + 1 + 1 ≠ E by omega)).trans hx2) 0
  have hh := grownBy_putObj' WZ E (.deferred none)
  refine ⟨by simp, .inl ⟨_, _, rfl, run_takeDeferred hK7, ?_⟩⟩
  exact ⟨.tuple #[.agg #[.int .i64 0, .int .i64 0, .int .i64 0], .bool false], by simp [results, Tryz.results156, go_sem, z0, z1, z2, z3], by rw [HON.out], hB8.grown hh hB8.size (fun k e => by cases e; omega)⟩
 case stop =>
  rintro E c pre W hE hpre ⟨rfl, x, hx, i1, i2, hB⟩ hK
  have HON := Lib.hid (show findR ((allF D).find? φ) = .tuple #[.agg (fldC x), .bool true] from by rw [find_pre hx hpre]; rfl)
  have hE' : w.heap.size + 1 + 1 + 1 ≤ E := by rw [HZ3.out] at hE; exact hE
  have HB7 := Lib.hid hB
  have HK := Lib.hid hK
  unfold fldC at *
  clear hx hpre hB hG3 n0 n1 n2 nb
  gi_wp2
  have hh := grownBy_putObj' W E (.deferred none)
  obtain ⟨z0, z1, z2, _⟩ := row3 ((World.putObj_heap_other (o := .deferred none) (show w.heap.size + 1 ≠ E by omega)).trans i1)
  have z3 := cell_row ((World.putObj_heap_other (o := .deferred none) (show w.heap.size + 1 + 1 ≠ E by omega)).trans i2) 0
  refine ⟨by simp, .inl ⟨_, _, rfl, run_takeDeferred HK.out, ?_⟩⟩
  exact ⟨.tuple #[.agg #[.int .i64 (x.1 : Int), .int .i64 (x.2.1 : Int), .int .i64 (x.2.2 : Int)], .bool true], by simp [results, Tryz.results156, go_sem, z0, z1, z2, z3], by rw [HON.out], HB7.out.grown hh HB7.out.size (fun k e => by cases e; omega)⟩
end
section
attribute [local go_sem] alloc_drewN setCell_drewN World.cell?_alloc_some frozen_alloc_some size_f0 size_f1
theorem runsF_in (g : Nat → Bool) (C : Nat) : ∀ (n fr col : Nat), fr ≤ col → col + n = C → ∀ p ∈ runsF g fr col n, p.1 < C
 | 0, fr, col, h1, h2, p, hp => by
   unfold runsF at hp
   split at hp
   · obtain rfl : p = (fr, col - 1) := by simpa using hp
     show fr < C
     omega
   · cases hp
 | n + 1, fr, col, h1, h2, p, hp => by
   unfold runsF at hp
   split at hp
   · exact runsF_in g C n fr (col + 1) (by omega) (by omega) p hp
   · rcases List.mem_append.1 hp with hp | hp
     · split at hp
       · obtain rfl : p = (fr, col - 1) := by simpa using hp
         show fr < C
         omega
       · cases hp
     · exact runsF_in g C n (col + 1) (col + 1) (Nat.le_refl _) (by omega) p hp
theorem fieldsF_in (D : Vz.Gd) : ∀ (n r : Nat), r + n = D.R → ∀ x ∈ fieldsF D r n, x.1 < D.R ∧ x.2.1 < D.C
 | 0, r, h, x, hx => by cases hx
 | n + 1, r, h, x, hx => by
   rw [fieldsF_succ] at hx
   rcases List.mem_append.1 hx with hx | hx
   · unfold rowF mapR at hx
     obtain ⟨p, hp, rfl⟩ := List.mem_map.1 hx
     exact ⟨by show r < D.R; omega, runsF_in _ D.C D.C 0 0 (Nat.le_refl _) (Nat.zero_add _) p hp⟩
   · exact fieldsF_in D n (r + 1) (by omega) x hx
theorem allF_in {D : Vz.Gd} {x : FT} {pre : List FT} (h : pre ++ [x] <+: allF D) : x.1 < D.R ∧ x.2.1 < D.C :=
 fieldsF_in D D.R 0 (Nat.zero_add _) x (h.subset (by simp))
theorem find_true {α : Type} (l : List α) : (l.find? fun _ => true) = l.head? := by cases l <;> rfl
theorem begin_ok (x : FT) (w : World) : Calls Tryz.prog 155 #[.agg (fldC x)] w fun e w' => e = .returned (.agg #[.int .i64 (x.1 : Int), .int .i64 (x.2.1 : Int)]) ∧ Below w.heap.size w w' := by
 unfold fldC
 generalize (x.1 : Int) = a
 generalize (x.2.1 : Int) = b
 generalize (x.2.2 : Int) = c
 obtain ⟨n0, n1, nb⟩ := box2 (Below.refl ((w.alloc (.cells #[.int .i64 a, .int .i64 b, .int .i64 c] 191)).alloc (.cells #[.int .i64 a, .int .i64 b] 49)).heap.size ((w.alloc (.cells #[.int .i64 a, .int .i64 b, .int .i64 c] 191)).alloc (.cells #[.int .i64 a, .int .i64 b] 49)))
 obtain ⟨z0, z1, _⟩ := row2 n1
 have HB := Lib.hid nb
 clear nb n0 n1
 go_enter Tryz.func155, Tryz.ntmps155
 go_wp2_with fail
 exact bodyPost_ret (v := .agg #[.int .i64 a, .int .i64 b]) (by simp [results, Tryz.results155, go_sem, z0, z1]) rfl ⟨rfl, HB.out⟩
theorem any_test (D : Vz.Gd) (w : World) : TestF D 159 #[] (fun _ => true) w := by
 intro x W' hb _
 unfold fldC
 have HB := Lib.hid (below1 W' (.cells #[.int .i64 (x.1 : Int), .int .i64 (x.2.1 : Int), .int .i64 (x.2.2 : Int)] 191))
 clear hb
 go_enter Tryz.func159, Tryz.ntmps159
 go_wp2_with fail
 go_ret
 exact ⟨rfl, HB.out⟩
theorem num_test {B : Nat} {w : World} {OB : Nat} {D : Vz.Gd} {G K : Nat → Nat} (hR : RowsAt B w OB D G K) (hm : D.may) (b2 b7 b6 k : Nat) (h2 : w.heap[b2]? = some (.cells #[.slice (some ⟨OB, 0, none⟩) D.R D.R] 64 (0, 0))) (h7 : w.heap[b7]? = some (.cells #[.func (.func 155) #[] #[]] 192 (0, 0))) (h6 : w.heap[b6]? = some (.cells #[.int .i64 (k : Int)] 3 (0, 0))) :
 TestF D 158 #[.pointer (some ⟨b2, 0, none⟩), .pointer (some ⟨b7, 0, none⟩), .pointer (some ⟨b6, 0, none⟩)] (fun x => decide (k < numF D x)) w := by
 intro x W hbW hpre
 obtain ⟨pre, hpre⟩ := hpre
 obtain ⟨x1, x2⟩ := allF_in hpre
 have HC : Hid (∀ W', Below W.heap.size W W' → W'.cell? ⟨b2, 0, none⟩ = some (.slice (some ⟨OB, 0, none⟩) D.R D.R) ∧ W'.cell? ⟨b7, 0, none⟩ = some (.func (.func 155) #[] #[]) ∧ W'.cell? ⟨b6, 0, none⟩ = some (.int .i64 (k : Int))) := fun W' hb => by
  have hh := Below.later hbW hb hbW.size
  exact ⟨cell_row ((hh.block _ (block_lt h2)).trans h2) 0, cell_row ((hh.block _ (block_lt h7)).trans h7) 0, cell_row ((hh.block _ (block_lt h6)).trans h6) 0⟩
 have HN := Lib.hid (fun W' (hb : Below W.heap.size W W') => fnumber (hR.below (Below.later hbW hb hbW.size)) hm x.1 x.2.1 x1 x2 0)
 have HBG := Lib.hid (fun W' => begin_ok x W')
 have heg : ∀ args W', Sem.run Tryz.prog (callFunc 155 args) W' = .ok (.enter 155 args) W' := enters_of Tryz.func155 (by kernel_rfl) rfl
 show Calls Tryz.prog 158 #[.agg (fldC x), .pointer (some ⟨b2, 0, none⟩), .pointer (some ⟨b7, 0, none⟩), .pointer (some ⟨b6, 0, none⟩)] W fun e w'' => e = .returned (.bool (decide (k < x.1 * D.C + x.2.1))) ∧ Below W.heap.size W w''
 have hlt : x.1 * D.C + x.2.1 < 9223372036854775808 := by
  have : x.1 * D.C ≤ 255 * 255 := Nat.mul_le_mul (by obtain ⟨a, b, c, d⟩ := hm; omega) (by obtain ⟨a, b, c, d⟩ := hm; omega)
  obtain ⟨a, b, c, d⟩ := hm
  omega
 unfold fldC at *
 generalize x.1 * D.C + x.2.1 = m at *
 generalize (x.1 : Int) = a at *
 generalize (x.2.1 : Int) = b at *
 generalize (x.2.2 : Int) = c at *
 have HB1 := Lib.hid (below1 W (.cells #[.int .i64 a, .int .i64 b, .int .i64 c] 191)).drew
 have HX1 : Hid ((W.alloc (.cells #[.int .i64 a, .int .i64 b, .int .i64 c] 191)).drew.heap[W.heap.size]? = some (.cells #[.int .i64 a, .int .i64 b, .int .i64 c] 191 (0, 0))) := heap_alloc_new W _
 clear hR hm h2 h7 h6 hpre x1 x2 hbW
 go_enter Tryz.func158, Tryz.ntmps158
 go_upto_region 1 with fail
 refine wp_region_noPanic ?_
 refine wp_region_k (S := fun W' : World => Below W.heap.size W W' ∧ W'.heap[W.heap.size]? = some (.cells #[.int .i64 a, .int .i64 b, .int .i64 c] 191 (0, 0))) 999 (by kernel_rfl) (⟨HB1.out, HX1.out⟩) (fun hHeld => ?_)
 refine kHK (v := ?_) 0 hHeld ?y1 ?_
 case y1 => (intro W hSw; obtain ⟨c2, c7, c6⟩ := HC.out _ hSw.1; obtain ⟨p0, p1, p2, _⟩ := row3 hSw.2; go_simp; try with_reducible rfl)
 refine kHK (v := ?_) 1 hHeld ?y2 ?_
 case y2 => (intro W hSw; obtain ⟨c2, c7, c6⟩ := HC.out _ hSw.1; obtain ⟨p0, p1, p2, _⟩ := row3 hSw.2; go_simp; try with_reducible rfl)
 refine kHK (v := ?_) 2 hHeld ?y3 ?_
 case y3 => (intro W hSw; obtain ⟨c2, c7, c6⟩ := HC.out _ hSw.1; obtain ⟨p0, p1, p2, _⟩ := row3 hSw.2; go_simp; try with_reducible rfl)
 refine kHK (v := ?_) 5 hHeld ?y4 ?_
 case y4 => (intro W hSw; obtain ⟨c2, c7, c6⟩ := HC.out _ hSw.1; obtain ⟨p0, p1, p2, _⟩ := row3 hSw.2; go_simp; try with_reducible rfl)
 try refine kNK ?_
 refine kOK 3 fun KQ hKQ => ?_
 go_simp
 refine (HBG.out _).mono ?_
 rintro e w2 ⟨rfl, hb2⟩
 have HB2 := Lib.hid (Below.later hHeld.1 hb2 hHeld.1.size)
 have HX2 := Lib.hid ((hb2.block _ (block_lt hHeld.2)).trans hHeld.2)
 clear hb2
 go_wp2_with fail
 refine hKQ.out _ _ (⟨HB2.out, HX2.out⟩) ?_
 clear hHeld hKQ KQ
 intro hHeld
 try refine kNK ?_
 refine kOK 4 fun KQ hKQ => ?_
 go_simp
 go_at_call 154
 refine (HN.out _ hHeld.1).mono ?_
 rintro e w3 ⟨rfl, hb3⟩
 have HB3 := Lib.hid (Below.later hHeld.1 hb3 hHeld.1.size)
 have HX3 := Lib.hid ((hb3.block _ (block_lt hHeld.2)).trans hHeld.2)
 clear hb3
 go_wp2_with fail
 refine hKQ.out _ _ (⟨HB3.out, HX3.out⟩) ?_
 clear hHeld hKQ KQ
 intro hHeld
 try refine kNK ?_
 refine kSK 6 hHeld ?_
 refine kSK 7 hHeld ?_
 try refine kNK ?_
 refine wpAnyK_done (by kernel_rfl) ?_ _
 refine NoPanic.normal ?_
 go_wp2_with fail
 go_ret
 exact ⟨rfl, HB3.out⟩
def tabR (o : Option FT) : Value :=
 match o with
 | none => .tuple #[.agg #[.int .i64 0, .int .i64 0], .bool false]
 | some x => .tuple #[.agg #[.int .i64 (x.1 : Int), .int .i64 (x.2.1 : Int)], .bool true]
theorem set3_below {B : Nat} {w W : World} (h : Below B w W) {g : Nat} (hg : B ≤ g) (u0 u1 u2 : Value) : Below B w (((W.setCell ⟨g, 0, none⟩ u0).setCell ⟨g, 1, none⟩ u1).setCell ⟨g, 2, none⟩ u2) :=
 ((h.setCell (p := ⟨g, 0, none⟩) hg _).setCell (p := ⟨g, 1, none⟩) hg _).setCell (p := ⟨g, 2, none⟩) hg _
theorem ftab_ok {B : Nat} {w : World} {OB : Nat} {D : Vz.Gd} {G K : Nat → Nat} (hR : RowsAt B w OB D G K) (hm : D.may) (i j : Nat) (hi : i < D.R) (hj : j < D.C) : Calls Tryz.prog 126 #[.slice (some ⟨OB, 0, none⟩) D.R D.R, .agg #[.int .i64 (i : Int), .int .i64 (j : Int)]] w fun e w' => e = .returned (tabR (tabF D (i * D.C + j))) ∧ Below w.heap.size w w' := by
 obtain ⟨n0, n1, n2, nb⟩ := box3 (Below.refl (((w.alloc (.cells #[.slice (some ⟨OB, 0, none⟩) D.R D.R] 64)).alloc (.cells #[.int .i64 (i : Int), .int .i64 (j : Int)] 49)).alloc (.cells #[.int .i64 0, .int .i64 0] 49)).heap.size (((w.alloc (.cells #[.slice (some ⟨OB, 0, none⟩) D.R D.R] 64)).alloc (.cells #[.int .i64 (i : Int), .int .i64 (j : Int)] 49)).alloc (.cells #[.int .i64 0, .int .i64 0] 49)))
 have hz : (((w.alloc (.cells #[.slice (some ⟨OB, 0, none⟩) D.R D.R] 64)).alloc (.cells #[.int .i64 (i : Int), .int .i64 (j : Int)] 49)).alloc (.cells #[.int .i64 0, .int .i64 0] 49)).heap.size = w.heap.size + 1 + 1 + 1 := by simp
 have HCH := Lib.hid (fun W (hb : Below w.heap.size w W) => fcheck (hR.below hb) hm)
 have HNU := Lib.hid (fun W (hb : Below w.heap.size w W) => fnumber (hR.below hb) hm i j hi hj (-1))
 have HRW := Lib.hid (fun W (hb : Below w.heap.size w W) => hR.below hb)
 have HB0 := Lib.hid nb
 have HN := Lib.hid (show _ ∧ _ ∧ _ from ⟨n0, n1, n2⟩)
 have r0 := cell_row n0 0
 obtain ⟨p0, p1, _⟩ := row2 n1
 obtain ⟨q0, q1, _⟩ := row2 n2
 have HM := Lib.hid hm
 have HZ := Lib.hid hz
 have heg1 : ∀ args W', Sem.run Tryz.prog (callFunc 155 args) W' = .ok (.enter 155 args) W' := enters_of Tryz.func155 (by kernel_rfl) rfl
 have hmf : ∀ (fn : Fn) (first cap : Array Value) (w : World), (Instr.makeFunc fn first cap).run Tryz.prog w = .ok (.func fn first cap) w := fun _ _ _ _ => rfl
 clear hR hm hi hj nb n0 n1 n2 hz
 generalize i * D.C + j = k at *
 obtain ⟨o1, ho1⟩ : ∃ o, o = (allF D).find? fun x => decide (k < numF D x) := ⟨_, rfl⟩
 obtain ⟨o2, ho2⟩ : ∃ o, o = (allF D).head? := ⟨_, rfl⟩
 rw [show tabF D k = o1.or o2 by rw [ho1, ho2]; rfl]
 have HO1 := Lib.hid ho1
 have HO2 := Lib.hid ho2
 clear ho1 ho2
 go_enter Tryz.func126, Tryz.ntmps126
 go_upto_region 5 with (first
  | (go_at_call 153; refine (HCH.out _ HB0.out).mono ?_; rintro e w1 ⟨rfl, rfl⟩)
  | (go_at_call 154; refine (HNU.out _ HB0.out).mono ?_; rintro e w2 ⟨rfl, hb2⟩; have HB2 := Lib.hid hb2; clear hb2))
 obtain ⟨c6, c7, c5⟩ := box2 (Below.refl ((w2.alloc (.cells #[.int .i64 (k : Int)] 3)).alloc (.cells #[.func (.func 155) #[] #[]] 192)).heap.size ((w2.alloc (.cells #[.int .i64 (k : Int)] 3)).alloc (.cells #[.func (.func 155) #[] #[]] 192)))
 have hb35 : Below (w.heap.size + 1 + 1 + 1) (((w.alloc (.cells #[.slice (some ⟨OB, 0, none⟩) D.R D.R] 64)).alloc (.cells #[.int .i64 (i : Int), .int .i64 (j : Int)] 49)).alloc (.cells #[.int .i64 0, .int .i64 0] 49)) ((w2.alloc (.cells #[.int .i64 (k : Int)] 3)).alloc (.cells #[.func (.func 155) #[] #[]] 192)) := by
  have := Below.later HB2.out c5 HB2.out.size
  rwa [HZ.out] at this
 have hbw5 : Below w.heap.size w ((w2.alloc (.cells #[.int .i64 (k : Int)] 3)).alloc (.cells #[.func (.func 155) #[] #[]] 192)) := Below.later HB0.out (by rw [HZ.out]; exact hb35) HB0.out.size
 have x2 := (hb35.block _ (by omega)).trans HN.out.1
 have x4 := (hb35.block _ (by omega)).trans HN.out.2.2
 have hs2 : w.heap.size + 1 + 1 + 1 ≤ w2.heap.size := by
  have := HB2.out.size
  rwa [HZ.out] at this
 have hR5 := HRW.out _ hbw5
 obtain ⟨b6, hb6⟩ : ∃ b, b = w2.heap.size := ⟨_, rfl⟩
 rw [← hb6] at c6 c7 hs2 ⊢
 generalize ((w2.alloc (.cells #[.int .i64 (k : Int)] 3)).alloc (.cells #[.func (.func 155) #[] #[]] 192)) = V at *
 have HT : Hid (∀ W', Below V.heap.size V W' → TestF D 158 #[.pointer (some ⟨w.heap.size, 0, none⟩), .pointer (some ⟨b6 + 1, 0, none⟩), .pointer (some ⟨b6, 0, none⟩)] (fun x => decide (k < numF D x)) W') :=
  fun W' hb => num_test (hR5.below hb) HM.out w.heap.size (b6 + 1) b6 k ((hb.block _ (block_lt x2)).trans x2) ((hb.block _ (block_lt c7)).trans c7) ((hb.block _ (block_lt c6)).trans c6)
 have HBX : Hid (∀ W', Below V.heap.size V W' → W'.heap[w.heap.size]? = some (.cells #[.slice (some ⟨OB, 0, none⟩) D.R D.R] 64 (0, 0)) ∧ W'.heap[w.heap.size + 1 + 1]? = some (.cells #[.int .i64 0, .int .i64 0] 49 (0, 0)) ∧ W'.heap[b6 + 1]? = some (.cells #[.func (.func 155) #[] #[]] 192 (0, 0)) ∧ Below w.heap.size w W') :=
  fun W' hb => ⟨(hb.block _ (block_lt x2)).trans x2, (hb.block _ (block_lt x4)).trans x4, (hb.block _ (block_lt c7)).trans c7, Below.later hbw5 hb hbw5.size⟩
 have HGW : Hid (∀ W', Below V.heap.size V W' → FldG W'.heap.size B OB D G K (W'.alloc (.cells #[.slice (some ⟨OB, 0, none⟩) D.R D.R] 64))) := fun W' hb => ⟨heap_alloc_new _ _, (hR5.below hb).below (below1 _ _)⟩
 have HF1 : Hid (∀ (W' : World) (rb : Nat), Below V.heap.size V W' → FldG rb B OB D G K W' → Calls Tryz.prog 156 #[.func (.func 193) #[] #[.pointer (some ⟨rb, 0, none⟩)], .func (.func 158) #[] #[.pointer (some ⟨w.heap.size, 0, none⟩), .pointer (some ⟨b6 + 1, 0, none⟩), .pointer (some ⟨b6, 0, none⟩)]] W' fun e w' => e = .returned (findR ((allF D).find? fun x => decide (k < numF D x))) ∧ Below W'.heap.size W' w') :=
  fun W' rb hb hg => callsIn_wide.1 (first_in 3 (Nat.le_refl _) rb B OB D G K HM.out 158 _ _ W' hg (enters_of Tryz.func158 (by kernel_rfl) rfl) (HT.out W' hb))
 have HF2 : Hid (∀ (W' : World) (rb : Nat), FldG rb B OB D G K W' → Calls Tryz.prog 156 #[.func (.func 193) #[] #[.pointer (some ⟨rb, 0, none⟩)], .func (.func 159) #[] #[]] W' fun e w' => e = .returned (findR (allF D).head?) ∧ Below W'.heap.size W' w') :=
  fun W' rb hg => by
   have := callsIn_wide.1 (first_in 3 (Nat.le_refl _) rb B OB D G K HM.out 159 #[] (fun _ => true) W' hg (enters_of Tryz.func159 (by kernel_rfl) rfl) (any_test D W'))
   rwa [find_true] at this
 have HBG := Lib.hid (fun x W' => begin_ok x W')
 have HAL := Lib.hid (fun W' => fall_any OB D.R W')
 have r5 : V.cell? ⟨w.heap.size, 0, none⟩ = some (.slice (some ⟨OB, 0, none⟩) D.R D.R) := cell_row x2 0
 rw [← HO1.out] at HF1
 rw [← HO2.out] at HF2
 clear HO1 HO2 hb35 hbw5 x2 x4 hs2 hR5 c5 c6 c7 hb6 HT HN HZ HB0 HB2 HCH HNU HRW r0 p0 p1 q0 q1
 cases o1 with
 | some x =>
   clear HF2
   unfold findR fldC at HF1
   simp only at HF1
   go_wp2_with (first
    | (go_at_call 157; refine (HAL.out _).mono ?_; rintro e w6 ⟨rfl, hw6⟩; have HW6 := Lib.hid hw6; clear hw6)
    | (go_at_call 156; have hb6' : Below V.heap.size V w6 := by rw [HW6.out]; exact below1 V _
       have hg6 := HGW.out V (Below.refl _ _)
       rw [← HW6.out] at hg6
       refine (HF1.out _ _ hb6' hg6).mono ?_; rintro e w7 ⟨rfl, hb7⟩; have HB8 := Lib.hid (Below.later (Below.later hb6' hb7 hb6'.size) (below1 w7 (.cells #[.int .i64 (x.1 : Int), .int .i64 (x.2.1 : Int), .int .i64 (x.2.2 : Int)] 191)) (Nat.le_trans hb6'.size hb7.size)); obtain ⟨f0, f1, f2, _⟩ := row3 (heap_alloc_new w7 (.cells #[.int .i64 (x.1 : Int), .int .i64 (x.2.1 : Int), .int .i64 (x.2.2 : Int)] 191)); have g7 := cell_row (HBX.out _ HB8.out).2.2.1 0; clear hb6' hg6 hb7 r5))
   refine (HBG.out x _).mono ?_
   rintro e w9 ⟨rfl, hb9⟩
   have HB9 := Lib.hid (Below.later HB8.out hb9 HB8.out.size)
   clear hb9 HW6
   obtain ⟨q0, q1, fq0, fq1⟩ := row2 (HBX.out _ HB9.out).2.1
   dsimp only
   go_wp2_with fail
   obtain ⟨_, hx4, _, hbw⟩ := HBX.out _ HB9.out
   obtain ⟨u0, u1, _⟩ := row2 (set_two hx4 (.int .i64 (x.1 : Int)) (.int .i64 (x.2.1 : Int)))
   exact bodyPost_ret (v := .tuple #[.agg #[.int .i64 (x.1 : Int), .int .i64 (x.2.1 : Int)], .bool true]) (by simp [results, Tryz.results126, go_sem, u0, u1]) rfl ⟨rfl, (hbw.setCell (p := ⟨w.heap.size + 1 + 1, 0, none⟩) (by show w.heap.size ≤ w.heap.size + 1 + 1; omega) _).setCell (p := ⟨w.heap.size + 1 + 1, 1, none⟩) (by show w.heap.size ≤ w.heap.size + 1 + 1; omega) _⟩
 | none =>
   unfold findR at HF1
   simp only at HF1
   go_upto_region 7 with (first
    | (go_at_call 157; refine (HAL.out _).mono ?_; rintro e w6 ⟨rfl, hw6⟩; have HW6 := Lib.hid hw6; clear hw6)
    | (go_at_call 156; have hb6' : Below V.heap.size V w6 := by rw [HW6.out]; exact below1 V _
       have hg6 := HGW.out V (Below.refl _ _)
       rw [← HW6.out] at hg6
       refine (HF1.out _ _ hb6' hg6).mono ?_; rintro e w7 ⟨rfl, hb7⟩; have HB8 := Lib.hid (Below.later (Below.later hb6' hb7 hb6'.size) (below1 w7 (.cells #[.int .i64 0, .int .i64 0, .int .i64 0] 191)) (Nat.le_trans hb6'.size hb7.size)); have HT7 : Hid ((w7.alloc (.cells #[.int .i64 0, .int .i64 0, .int .i64 0] 191)).heap[w7.heap.size]? = some (.cells #[.int .i64 0, .int .i64 0, .int .i64 0] 191 (0, 0))) := heap_alloc_new w7 _; have HVS : Hid (V.heap.size ≤ w7.heap.size) := Nat.le_trans hb6'.size hb7.size; clear hb6' hg6 hb7 r5))
   have r5 := cell_row (HBX.out _ HB8.out).1 0
   clear HF1 HW6
   obtain ⟨b8, hb8⟩ : ∃ b, b = w7.heap.size := ⟨_, rfl⟩
   rw [← hb8] at HT7 HVS ⊢
   clear hb8
   generalize (w7.alloc (.cells #[.int .i64 0, .int .i64 0, .int .i64 0] 191)) = WW at *
   cases o2 with
   | some x =>
     unfold findR fldC at HF2
     simp only at HF2
     go_wp2_with (first
     | (go_at_call 157; refine (HAL.out _).mono ?_; rintro e w8 ⟨rfl, hw8⟩; have HW8 := Lib.hid hw8; clear hw8)
     | (go_at_call 156; have hg8 := HGW.out _ HB8.out
        rw [← HW8.out] at hg8
        have hb8' := below1 WW (.cells #[.slice (some ⟨OB, 0, none⟩) D.R D.R] 64)
        rw [← HW8.out] at hb8'
        refine (HF2.out _ _ hg8).mono ?_; rintro e w9 ⟨rfl, hb9⟩; have HB9 := Lib.hid (Below.later (Below.later HB8.out hb8' HB8.out.size) hb9 (Nat.le_trans HB8.out.size hb8'.size)); have HT8 := Lib.hid ((hb9.block _ (Nat.lt_of_lt_of_le (block_lt HT7.out) hb8'.size)).trans ((hb8'.block _ (block_lt HT7.out)).trans HT7.out)); have HB10 := Lib.hid (set3_below HB9.out HVS.out (.int .i64 (x.1 : Int)) (.int .i64 (x.2.1 : Int)) (.int .i64 (x.2.2 : Int))); obtain ⟨f0, f1, f2, ff0, ff1, ff2⟩ := row3 HT8.out; obtain ⟨g0, g1, g2, _⟩ := row3 (set_three' HT8.out (.int .i64 (x.1 : Int)) (.int .i64 (x.2.1 : Int)) (.int .i64 (x.2.2 : Int))); have g7 := cell_row (HBX.out _ HB10.out).2.2.1 0; clear hg8 hb8' hb9 r5))
     refine (HBG.out x _).mono ?_
     rintro e wb ⟨rfl, hb11⟩
     have HB11 := Lib.hid (Below.later HB10.out hb11 HB10.out.size)
     clear hb11
     obtain ⟨q0, q1, fq0, fq1⟩ := row2 (HBX.out _ HB11.out).2.1
     dsimp only
     go_wp2_with fail
     obtain ⟨_, hx4, _, hbw⟩ := HBX.out _ HB11.out
     obtain ⟨u0, u1, _⟩ := row2 (set_two hx4 (.int .i64 (x.1 : Int)) (.int .i64 (x.2.1 : Int)))
     exact bodyPost_ret (v := .tuple #[.agg #[(.int .i64 (x.1 : Int)), (.int .i64 (x.2.1 : Int))], .bool true]) (by simp [results, Tryz.results126, go_sem, u0, u1]) rfl ⟨rfl, (hbw.setCell (p := ⟨w.heap.size + 1 + 1, 0, none⟩) (by show w.heap.size ≤ w.heap.size + 1 + 1; omega) _).setCell (p := ⟨w.heap.size + 1 + 1, 1, none⟩) (by show w.heap.size ≤ w.heap.size + 1 + 1; omega) _⟩
   | none =>
     unfold findR at HF2
     simp only at HF2
     go_wp2_with (first
     | (go_at_call 157; refine (HAL.out _).mono ?_; rintro e w8 ⟨rfl, hw8⟩; have HW8 := Lib.hid hw8; clear hw8)
     | (go_at_call 156; have hg8 := HGW.out _ HB8.out
        rw [← HW8.out] at hg8
        have hb8' := below1 WW (.cells #[.slice (some ⟨OB, 0, none⟩) D.R D.R] 64)
        rw [← HW8.out] at hb8'
        refine (HF2.out _ _ hg8).mono ?_; rintro e w9 ⟨rfl, hb9⟩; have HB9 := Lib.hid (Below.later (Below.later HB8.out hb8' HB8.out.size) hb9 (Nat.le_trans HB8.out.size hb8'.size)); have HT8 := Lib.hid ((hb9.block _ (Nat.lt_of_lt_of_le (block_lt HT7.out) hb8'.size)).trans ((hb8'.block _ (block_lt HT7.out)).trans HT7.out)); have HB10 := Lib.hid (set3_below HB9.out HVS.out (.int .i64 0) (.int .i64 0) (.int .i64 0)); obtain ⟨f0, f1, f2, ff0, ff1, ff2⟩ := row3 HT8.out; obtain ⟨g0, g1, g2, _⟩ := row3 (set_three' HT8.out (.int .i64 0) (.int .i64 0) (.int .i64 0)); have g7 := cell_row (HBX.out _ HB10.out).2.2.1 0; clear hg8 hb8' hb9 r5))
     refine (HBG.out (0, 0, 0) _).mono ?_
     rintro e wb ⟨rfl, hb11⟩
     have HB11 := Lib.hid (Below.later HB10.out hb11 HB10.out.size)
     clear hb11
     obtain ⟨q0, q1, fq0, fq1⟩ := row2 (HBX.out _ HB11.out).2.1
     dsimp only
     go_wp2_with fail
     obtain ⟨_, hx4, _, hbw⟩ := HBX.out _ HB11.out
     obtain ⟨u0, u1, _⟩ := row2 (set_two hx4 (.int .i64 0) (.int .i64 0))
     exact bodyPost_ret (v := .tuple #[.agg #[(.int .i64 0), (.int .i64 0)], .bool false]) (by simp [results, Tryz.results126, go_sem, u0, u1]) rfl ⟨rfl, (hbw.setCell (p := ⟨w.heap.size + 1 + 1, 0, none⟩) (by show w.heap.size ≤ w.heap.size + 1 + 1; omega) _).setCell (p := ⟨w.heap.size + 1 + 1, 1, none⟩) (by show w.heap.size ≤ w.heap.size + 1 + 1; omega) _⟩
end
end Go.Proofs.YteoeooijpjehpaaGreatDoor
