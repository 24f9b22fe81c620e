import Derived.Test.YtliacdaddncmaaaGreatDoorSnNil
import Derived.Test.YtliacdaddncmaaaGreatDoorSnAwake

/- The law SnapNil, whole, over Print's contract. -/
namespace Go.Proofs.YtliacdaddncmaaaGreatDoor
open Go.RowKit
set_option linter.unusedSimpArgs false
set_option linter.unusedVariables false
attribute [local go_sem] alloc_drewN setCell_drewN World.cell?_alloc_some frozen_alloc_some size_f0 size_f1 Oper.semAt_some run_store_func

/-- wpIn_rangeFunc_T where nothing is handed out. -/
theorem wpIn_rangeFunc_0 {F : Fence} {n : Nat} {P : Program} {α : Type} {g : Operand} {ps : Array Tmp} {assign body : Code} {Q : Exit → Act → World → Prop} {a : Act} {w : World}
    (hro : F.round = none) (h1 : 1 ≤ n) {gf : Nat} {lb : Array Value} (hg : a.eval g = .func (.func gf) #[] lb) (hFg : F.fn gf) (eg : ∀ args w, (callFunc gf args).run P w = .ok (.enter gf args) w)
    {encs : α → Array Value} {Gd : World → Prop} {w0 : World} (hseq : SeqStopsT F (n - 1) P gf lb encs (fun _ _ => True) (fun ys => ys = []) (fun _ => False) (fun _ _ _ => False) Gd w0)
    (hb0 : Below w0.heap.size w0 w) (hps : ∀ x, (encs x).size = ps.size)
    (I : World → Prop) (hI : OwnFrom w.heap.size (fun (_ : Unit) W => I W)) (hGd : ∀ A, I A → Gd A) (h0 : I w)
    (hassign : ∀ (l : Nat) (x : α) (W : World) (K : Act → World → Prop), K { tmps := (ps.zip (encs x)).foldl (fun t (p, v) => t.setIfInBounds p v) a.tmps, defers := [] } W →
      assign.wpIn (F.inRound l) (n - 1 - 1) P (Exit.then K (fun _ _ _ => False)) { tmps := (ps.zip (encs x)).foldl (fun t (p, v) => t.setIfInBounds p v) a.tmps, defers := [] } W)
    (hdone : ∀ (D : Nat) (W : World), w.heap.size ≤ D → I W → W.heap[D]? = some (.deferred (some [])) → Q .normal { a with defers := { target := .collected D, args := #[] } :: a.defers } W) :
    (Code.rangeFunc g ps assign body).wpIn F n P Q a w :=
  wpIn_rangeFunc_T hro h1 hg hFg eg hseq (fun _ _ => trivial) (fun _ _ _ _ _ _ _ _ => trivial) hb0 hps (fun _ => I) (fun _ _ _ => False) (fun s A B row h hg hr => hI () A B row h hg hr) (fun _ _ _ _ _ h _ _ => h) (fun _ _ _ _ h _ _ => h) (fun _ A h => hGd A h) h0
    (fun x _ => { tmps := (ps.zip (encs x)).foldl (fun t (p, v) => t.setIfInBounds p v) a.tmps, defers := [] }) (fun _ W => W) (fun _ _ _ => True)
    (fun x W => grown_of_below (Below.refl _ W)) (fun _ _ => trivial) (fun _ _ => trivial) (fun _ _ _ _ _ _ _ => trivial) hassign (fun _ _ _ _ _ _ _ h _ => h.elim) (fun D xs W hD _ hi hd => hdone D W hD hi hd) (fun _ _ _ _ _ h _ _ => h.elim)
set_option maxRecDepth 100000 in
set_option maxHeartbeats 8000000 in
theorem law_nnil_in (n : Nat) (hn : 5 ≤ n) (p : Int) (hpr : PrintOk) (w : World) (hbl : Blanked w) (t : TypeId) (fr : Nat × Nat) (hg : w.heap[1]? = some (.cells names12a t fr)) :
    CallsIn Fence.wide n Tryz.prog 3 #[.int .i64 p] w fun e w' => e = .returned (.bool true) ∧ Below w.heap.size w w' := by
  have h1 : 1 ≤ n := by omega
  have HT := Lib.hid (take_no p none w (.inr rfl))
  have HRN := Lib.hid (refname_any p)
  have HAW := Lib.hid (fun W (hb : Below w.heap.size w W) => awake_of hpr W (hbl.below hb) t fr ((hb.block _ (block_lt hg)).trans hg))
  have HSM := Lib.hid same_zero
  have HTX := Lib.hid text_zero
  unfold sh0 at HSM HTX
  clear hpr hbl hg
  have hcs : (nameB p = [] ∧ (nameB p).isEmpty = true) ∨ (¬ nameB p = [] ∧ (nameB p).isEmpty = false) := by
    by_cases h : nameB p = []
    · exact .inl ⟨h, by rw [h]; rfl⟩
    · exact .inr ⟨h, by cases hl : nameB p with
        | nil => exact absurd hl h
        | cons a l => rfl⟩
  have hnf : ∀ (c : Array Value) W, Sem.run Tryz.prog (binOp BinOp.eql 36 (.func (.func 26) #[] c) .nilFunc) W = .ok (.bool false) W := fun c W => rfl
  refine callsIn_of_wp_marks Tryz.func3 rfl trivial ?_ rfl
  simp only [Tryz.ntmps3, List.size_toArray, List.length_cons, List.length_nil, Nat.reduceAdd, Nat.reduceSub, Array.replicate_succ, Array.replicate_zero, List.push_toArray, List.append_toArray, List.nil_append, List.cons_append]
  rcases hcs with ⟨hn0, hnb⟩ | ⟨hn0, hnb⟩
  all_goals (
    first | rw [if_pos hn0] at HT | rw [if_neg hn0] at HT
    clear hn0
    unfold sh0 at HT
    gi_wp2_with (first
      | ((try refine ⟨trivial, ?_⟩); gi_at_call 6; refine (callsIn_wide.2 HT.out).mono ?_; rintro e w1 ⟨rfl, hb1⟩; have HB1 := Lib.hid hb1; clear hb1)
      | ((try refine ⟨trivial, ?_⟩); gi_at_call 7; refine (callsIn_wide.2 (HRN.out _)).mono ?_; rintro e w2 ⟨rfl, rfl⟩)
      | ((try refine ⟨trivial, ?_⟩); gi_at_call 8; refine (callsIn_wide.2 (runs_call _ _)).mono ?_; rintro e w3 ⟨rfl, rfl⟩))
    obtain ⟨n0, n1, n2, nb⟩ := box3 (Below.refl (((w1.alloc (.cells #[.int .i64 0, .int .i64 0, .int .i64 0, .int .i64 0, .int .i64 0, .bool false, .slice none 0 0, .slice none 0 0, .slice none 0 0] 30)).alloc (.cells #[.int .i64 0] 3)).alloc (.cells #[.int .i64 0, .int .i64 0, .int .i64 0, .int .i64 0, .int .i64 0, .bool false, .slice none 0 0, .slice none 0 0, .slice none 0 0] 30)).heap.size (((w1.alloc (.cells #[.int .i64 0, .int .i64 0, .int .i64 0, .int .i64 0, .int .i64 0, .bool false, .slice none 0 0, .slice none 0 0, .slice none 0 0] 30)).alloc (.cells #[.int .i64 0] 3)).alloc (.cells #[.int .i64 0, .int .i64 0, .int .i64 0, .int .i64 0, .int .i64 0, .bool false, .slice none 0 0, .slice none 0 0, .slice none 0 0] 30)))
    have HW3 := Lib.hid (Below.later HB1.out nb HB1.out.size)
    have HN := Lib.hid (And.intro n0 (And.intro n1 n2))
    clear n0 n1 n2 nb hnb hnf
    refine wpIn_rangeFunc_0 rfl h1 (gf := 26) (lb := #[.pointer (some ⟨w1.heap.size + 1 + 1, 0, none⟩)]) rfl trivial (enters_of Tryz.func26 (by kernel_rfl) rfl)
      (runs0_stops (n - 1) (by omega) (w1.heap.size + 1 + 1) _) (Below.refl _ _) (fun _ => rfl)
      (fun A => A.heap[w1.heap.size]? = some (.cells #[.int .i64 0, .int .i64 0, .int .i64 0, .int .i64 0, .int .i64 0, .bool false, .slice none 0 0, .slice none 0 0, .slice none 0 0] 30 (0, 0)) ∧ A.heap[w1.heap.size + 1]? = some (.cells #[.int .i64 0] 3 (0, 0)) ∧ A.heap[w1.heap.size + 1 + 1]? = some (.cells #[.int .i64 0, .int .i64 0, .int .i64 0, .int .i64 0, .int .i64 0, .bool false, .slice none 0 0, .slice none 0 0, .slice none 0 0] 30 (0, 0)) ∧ Below w.heap.size w A)
      ?hI ?hGd ?h0 ?assign ?done
    case hI =>
      rintro _ X Y rw_ ⟨i1, i2, i3, i4⟩ hgr hrow
      exact ⟨cells_kept hgr hrow i1, cells_kept hgr hrow i2, cells_kept hgr hrow i3, below_own (by have := HB1.out.size; simp; omega) i4 hgr hrow⟩
    case hGd =>
      rintro A ⟨i1, i2, i3, i4⟩
      exact i3
    case h0 => exact ⟨HN.out.1, HN.out.2.1, HN.out.2.2, HW3.out⟩
    case assign =>
      intro l r W K hK
      gi_wp2
      revert hK
      unfold runV
      go_simp
      try exact fun h => h
    case done =>
      rintro D A hD ⟨i1, i2, i3, i4⟩ hd
      obtain ⟨⟨x0, x1, x2, x3, x4, x5, x6, x7, x8⟩, _⟩ := row9 i1
      have hDz : w1.heap.size ≤ D := by simp at hD; omega
      have HI1 := Lib.hid i1
      have HI2 := Lib.hid i2
      have HBA := Lib.hid i4
      have HDD := Lib.hid hd
      clear i1 i2 i3 i4 hd hD
      gi_wp2_with (first
        | ((try refine ⟨trivial, ?_⟩); gi_at_call 11; refine (callsIn_wide.2 (HAW.out _ HB7.out)).mono ?_; rintro e w8 ⟨rfl, hb8⟩; have HB8 := Lib.hid (Below.later HB7.out hb8 HB7.out.size); have HD8 := Lib.hid ((hb8.block _ (block_lt HD7.out)).trans HD7.out); clear hb8)
        | ((try refine ⟨trivial, ?_⟩); gi_at_call 10; refine (callsIn_wide.2 (HSM.out _)).mono ?_; rintro e w7 ⟨rfl, hb7⟩; have HB7 := Lib.hid (Below.later HB6.out hb7 HB6.out.size); have HD7 := Lib.hid ((hb7.block _ (block_lt HD6.out)).trans HD6.out); clear hb7)
        | ((try refine ⟨trivial, ?_⟩); gi_at_call 9; refine (callsIn_wide.2 (HTX.out _)).mono ?_; rintro e w6 ⟨rfl, hb6⟩; have HB6 := Lib.hid (Below.later HBA.out hb6 HBA.out.size); have HD6 := Lib.hid ((hb6.block _ (block_lt HDD.out)).trans HDD.out); clear x0 x1 x2 x3 x4 x5 x6 x7 x8; obtain ⟨⟨x0, x1, x2, x3, x4, x5, x6, x7, x8⟩, _⟩ := row9 ((hb6.block _ (block_lt HI1.out)).trans HI1.out); have z0 := cell_row ((hb6.block _ (block_lt HI2.out)).trans HI2.out) 0; simp only [List.getElem?_toArray, List.getElem?_cons_zero] at z0; clear hb6))
      have hh := grownBy_putObj' w8 D (.deferred none)
      have hw1 := HB1.out.size
      refine ⟨by simp, .inl ⟨_, _, rfl, run_takeDeferred HD8.out, ?_⟩⟩
      exact ⟨_, by simp [results, Tryz.results3, go_sem], rfl, HB8.out.grown hh HB8.out.size (fun k e => by cases e; omega)⟩)
theorem law_nnil (p : Int) (hpr : PrintOk) (w : World) (hbl : Blanked w) (t : TypeId) (fr : Nat × Nat) (hg : w.heap[1]? = some (.cells names12a t fr)) : Calls Tryz.prog 3 #[.int .i64 p] w fun e w' => e = .returned (.bool true) ∧ Below w.heap.size w w' :=
  callsIn_wide.1 (law_nnil_in 5 (Nat.le_refl _) p hpr w hbl t fr hg)
end Go.Proofs.YtliacdaddncmaaaGreatDoor
