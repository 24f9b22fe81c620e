/- Walks: Parse of scripts. -/
import Derived.Test.YtfkbgnonkgaobaaDoorParPlainB
import Derived.Test.YtfkbgnonkgaobaaDoorParLines
import Derived.Test.YtfkbgnonkgaobaaDoorParTold
import Derived.Test.YtfkbgnonkgaobaaDoorScrText
import Derived.Maps.AppendAt
import Derived.Sort.CutIn
import Derived.Stop.RegionWithIn
namespace Go.Proofs.YtfkbgnonkgaobaaDoor
open Go.RowKit Go.Shelf
attribute [local go_sem] Oper.semAt_some
set_option linter.unusedSimpArgs false
set_option linter.unusedVariables false

/-- The cells of a step. -/
def stpC (x : Vz.Stp) : List Value := [.int .i64 x.d, .string ⟨x.text.toArray⟩, .int .i64 x.kind, .int .i64 x.code, .bool x.shift, .bool x.ctrl, .int .i64 x.rows, .int .i64 x.cols, .int .i64 x.to]
def MaxL (w : World) : Prop := ∃ m, w.cell? ⟨0, 0, none⟩ = some (.int .i64 m)
theorem MaxL.below {w w' : World} (h : MaxL w) (hb : Below w.heap.size w w') : MaxL w' := by
  obtain ⟨m, hm⟩ := h
  exact ⟨m, (hb.cell (World.block_lt_of_cell? w _ hm)).trans hm⟩
theorem MaxL.lt {w : World} (h : MaxL w) : 0 < w.heap.size := by
  obtain ⟨m, hm⟩ := h
  exact World.block_lt_of_cell? w _ hm
theorem MaxL.belowB {B : Nat} {w w' : World} (h : MaxL w) (hlt : 0 < B) (hb : Below B w w') : MaxL w' := by
  obtain ⟨m, hm⟩ := h
  exact ⟨m, (hb.cell hlt).trans hm⟩
theorem infoStep : (Tryd.prog.info? 33).map (fun i => (i.zero, i.size, i.bytes)) = some (some (.agg #[.int .i64 0, .string ⟨#[]⟩, .int .i64 0, .int .i64 0, .bool false, .bool false, .int .i64 0, .int .i64 0, .int .i64 0]), 9, 72) := by kernel_rfl

theorem wds_new (w : World) (ws : List (List UInt8)) (k : Nat) (hk : ws.length = k + 1) (cs : List Value) (hcs : cs = ws.map fun x => Value.string ⟨x.toArray⟩) : Wds (w.heap.size + 1) (w.alloc (.cells cs.toArray 9)) (some ⟨w.heap.size, 0, none⟩) (k + 1) ws := by
  refine ⟨hk.symm, fun _ => ⟨_, 0, rfl, Nat.lt_succ_self _, fun i hi => ?_⟩⟩
  have hg := box_new w (.cells cs.toArray 9)
  rw [cell_of_row _ _ _ _ _ _ hg, hcs, Nat.zero_add]
  have : i < ws.length := by omega
  simp [this]
theorem split_any (T : ByteArray) (hT : T.size ≤ 1000) (w : World) (hm : MaxL w) : Calls Tryd.prog 26 #[.string T, .string ⟨#[32]⟩] w fun e w' => ∃ k : Nat, k ≤ 1000 ∧ e = .returned (.slice (some ⟨w.heap.size, 0, none⟩) (k + 1 : Nat) (k + 1 : Nat)) ∧
    Wds (w.heap.size + 1) w' (some ⟨w.heap.size, 0, none⟩) (k + 1) (Vz.splitS T.data.toList) ∧ Below w.heap.size w w' ∧ w.heap.size < w'.heap.size := by
  obtain ⟨m, hm⟩ := hm
  have h := Tryd.strings_Split T ⟨#[32]⟩ m w (by omega) hm (by decide)
  have hs := Vz.split_blanks T
  have hl := Vz.splitS_len T.data.toList
  have hlen : T.data.toList.length = T.size := rfl
  have hln := Lib.splitB_all ⟨#[32]⟩ (by decide) 0 _ T rfl
  refine h.mono ?_
  rintro e w' ⟨rfl, rfl⟩
  refine ⟨Lib.countB T ⟨#[32]⟩, ?_, rfl, ?_, (Below.refl _ _).alloc (Nat.le_refl _) _, by simp⟩
  · rw [← hs, List.length_map, hln] at hl
    omega
  · refine wds_new w _ _ ?_ _ ?_
    · rw [← hs, List.length_map, hln]
    · rw [← hs, List.map_map]
      rfl

theorem cells_new (W : World) (xs : List Value) (t : TypeId) : ∀ j u, xs[j]? = some u → (W.alloc (.cells xs.toArray t)).cell? ((⟨W.heap.size, 0, none⟩ : Addr).add j) = some u := by
  intro j u hj
  have hg := box_new W (.cells xs.toArray t)
  have : (⟨W.heap.size, 0, none⟩ : Addr).add j = ⟨W.heap.size, j, none⟩ := by unfold Addr.add; simp; exact fun h => h.symm
  rw [this, cell_of_row _ _ _ _ _ _ hg]
  simpa using hj
def goodL (ls : List (List UInt8)) : Prop := ∀ t ∈ ls, Vz.stepOf t = some (Vz.toldT t)
def cellsL (L : List Vz.Stp) : List Value := L.flatMap stpC

set_option maxRecDepth 100000 in
set_option maxHeartbeats 2000000 in
theorem parse_in (n : Nat) (hn : 3 ≤ n) (T : ByteArray) (hT : T.size ≤ 20000) (hL : ∀ x ∈ Vz.linesOf T.data.toList, x.length ≤ 1000) (w : World) (hE : ErrV w) (hM : MaxL w) (hP : PowTab w) :
    CallsIn Fence.wide n Tryd.prog 14 #[.string T] w fun e W' => ∃ v, e = .returned (.tuple #[v, .int .i64 (if (Vz.parseL (Vz.linesOf T.data.toList)).isSome then 0 else 14)]) ∧
      W'.ownsRow w.heap.size 33 9 v ((Vz.parseL (Vz.linesOf T.data.toList)).getD []).length (cellsL ((Vz.parseL (Vz.linesOf T.data.toList)).getD [])) ∧ Below w.heap.size w W' := by
  have h1 : 1 ≤ n := by omega
  generalize hz : (if (Vz.parseL (Vz.linesOf T.data.toList)).isSome then (0 : Int) else 14) = z
  have HZ := Lib.hid hz
  clear hz
  obtain ⟨i0, hi, hz0, hz1, hz2⟩ := info_parts infoStep
  refine callsIn_of_wp_marks Tryd.func14 rfl trivial ?_ rfl
  simp only [Tryd.ntmps14, List.size_toArray, List.length_cons, List.length_nil, Nat.reduceAdd, Nat.reduceSub, Array.replicate_succ, Array.replicate_zero, List.push_toArray, List.append_toArray, List.nil_append, List.cons_append]
  gi_wp2_with (refine ⟨trivial, ?_⟩; gi_at_call 24; refine (lines_in (n - 1) T _).mono ?_; rintro e w' ⟨rfl, rfl⟩)
  have bR0 := Boxed.new w 22 (.slice none 0 0)
  have bR1 := Boxed.new (w.alloc (.cells #[.slice none 0 0] 22)) 34 (.int .i64 0)
  have bO := Boxed.new ((w.alloc (.cells #[.slice none 0 0] 22)).alloc (.cells #[.int .i64 0] 34)) 22 (.slice none 0 0)
  have bS := Boxed.new (((w.alloc (.cells #[.slice none 0 0] 22)).alloc (.cells #[.int .i64 0] 34)).alloc (.cells #[.slice none 0 0] 22)) 9 (.string T)
  rw [World.size_alloc] at bR1
  rw [World.size_alloc, World.size_alloc] at bO
  rw [World.size_alloc, World.size_alloc, World.size_alloc] at bS
  have hB0 : Below w.heap.size w ((((w.alloc (.cells #[.slice none 0 0] 22)).alloc (.cells #[.int .i64 0] 34)).alloc (.cells #[.slice none 0 0] 22)).alloc (.cells #[.string T] 9)) :=
    ((((Below.refl _ w).alloc (Nat.le_refl _) _).alloc (by simp) _).alloc (by simp; omega) _).alloc (by simp; omega) _
  have hPL := Vz.linesOf_len T.data.toList
  have hTL : T.data.toList.length = T.size := rfl
  refine wpIn_rangeFunc_ownC rfl h1 (gf := 34) (lb := #[.pointer (some ⟨w.heap.size + 1 + 1 + 1, 0, none⟩)]) rfl trivial (enters_of Tryd.func34 (by kernel_rfl) rfl)
    (Bc := w.heap.size + 1 + 1 + 1) (lines_stops (n - 1) (by omega) T hT (w.heap.size + 1 + 1 + 1) w.heap.size _ bS) (by simp) (fun h k => h.trans k) (fun W l o o' hl _ _ _ => ⟨World.putObj_heap_other (by simp at hl; omega), fun b hb => World.putObj_heap_other (by simp at hl; omega)⟩) (Below.refl _ _) (fun _ => rfl)
    (fun pre W => (∃ v, Boxed W (w.heap.size + 1 + 1) 22 v ∧ W.ownsRow w.heap.size 33 9 v pre.length (cellsL (pre.map Vz.toldT))) ∧ goodL pre ∧ (Boxed W w.heap.size 22 (.slice none 0 0) ∧ Boxed W (w.heap.size + 1) 34 (.int .i64 0) ∧ ∃ u, Boxed W (w.heap.size + 1 + 1 + 1) 9 u) ∧ Below w.heap.size w W)
    (fun c pre W => c = .ret ∧ (∃ x ∈ pre, Vz.stepOf x = none) ∧ (Boxed W w.heap.size 22 (.slice none 0 0) ∧ Boxed W (w.heap.size + 1) 34 (.int .i64 14)) ∧ Below w.heap.size w W)
    ?hI ?hIx ?hIc ?hIxc ?h0
    (fun x => { tmps := #[.string T, undef, .pointer (some ⟨w.heap.size, 0, none⟩), .pointer (some ⟨w.heap.size + 1, 0, none⟩), .pointer (some ⟨w.heap.size + 1 + 1, 0, none⟩), .string ⟨x.toArray⟩, undef, .string T, .func (.func 34) #[] #[.pointer (some ⟨w.heap.size + 1 + 1 + 1, 0, none⟩)], .string ⟨x.toArray⟩, undef, undef, undef, undef, undef, undef, undef, undef, undef, undef, undef, undef, undef, undef, undef, undef, undef, undef], defers := [] }) ?assign ?body ?done ?stop
  case hI =>
    rintro pre X Y row ⟨⟨v, hv, hr⟩, hp, ⟨b0, b1, u, bu⟩, hB⟩ hg hrow
    exact ⟨⟨v, boxed_keptC hv hg hrow, ownsRow_keptC hr hg hrow⟩, hp, ⟨boxed_keptC b0 hg hrow, boxed_keptC b1 hg hrow, u, boxed_keptC bu hg hrow⟩, hB.grown hg hB.size (fun k e => by have := (hrow k e).1; simp at this; omega)⟩
  case hIx =>
    rintro c pre X Y row ⟨hc, hp, ⟨b0, b1⟩, hB⟩ hg hrow
    exact ⟨hc, hp, ⟨boxed_keptC b0 hg hrow, boxed_keptC b1 hg hrow⟩, hB.grown hg hB.size (fun k e => by have := (hrow k e).1; simp at this; omega)⟩
  case hIc =>
    rintro pre X x ⟨⟨v, hv, hr⟩, hp, ⟨b0, b1, u, bu⟩, hB⟩
    exact ⟨⟨v, boxed_set hv (by omega) _, ownsRow_setBox hr bu (by decide) _⟩, hp, ⟨boxed_set b0 (by omega) _, boxed_set b1 (by omega) _, x, bu.set x⟩, hB.setCell (p := ⟨w.heap.size + 1 + 1 + 1, 0, none⟩) (by show _ ≤ w.heap.size + 1 + 1 + 1; omega) _⟩
  case hIxc =>
    rintro c pre X x ⟨hc, hp, ⟨b0, b1⟩, hB⟩
    exact ⟨hc, hp, ⟨boxed_set b0 (by omega) _, boxed_set b1 (by omega) _⟩, hB.setCell (p := ⟨w.heap.size + 1 + 1 + 1, 0, none⟩) (by show _ ≤ w.heap.size + 1 + 1 + 1; omega) _⟩
  case h0 =>
    exact ⟨⟨_, bO.alloc _, World.ownsRow_nil _ _ _ _⟩, (by intro x hx; cases hx), ⟨((bR0.alloc _).alloc _).alloc _, (bR1.alloc _).alloc _, _, bS⟩, hB0⟩
  case assign =>
    intro l x W K hK
    gi_wp2
    exact hK
  case body =>
    rintro l pre x W ⟨⟨v, hv, hr⟩, hp, ⟨b0, b1, u, bu⟩, hB⟩ hlt
    have hx10 : x.length ≤ 1000 := hL x (hlt.subset (by simp))
    have hpl : pre.length ≤ T.size := by have := hlt.length_le; simp at this; omega
    have HTR := Lib.hid (fun W' => Tryd.strings_TrimSuffix ⟨x.toArray⟩ ⟨#[10]⟩ W' (by show x.toArray.size ≤ _; simp; omega))
    generalize hy : (⟨(Lib.trimSuffix (⟨x.toArray⟩ : ByteArray).data.toList (⟨#[10]⟩ : ByteArray).data.toList).toArray⟩ : ByteArray) = y at HTR
    have hy1 : y.size ≤ 1000 := by
      rw [← hy]
      show (Lib.trimSuffix (⟨x.toArray⟩ : ByteArray).data.toList (⟨#[10]⟩ : ByteArray).data.toList).toArray.size ≤ 1000
      have := Vz.trimSuffix_len x [10]
      simp at this ⊢
      omega
    have hy2 : Vz.toldP (Vz.splitS y.data.toList) = Vz.toldT x := by rw [← hy]; rfl
    have HSP := Lib.hid (split_any y hy1)
    have hwl : ∀ z ∈ Vz.splitS y.data.toList, z.length ≤ 1000 := fun z hz => by have := Vz.splitS_sum _ z hz; have e : y.data.toList.length = y.size := rfl; omega
    have HTO := Lib.hid (fun k g (W' : World) (hk : k ≤ 1000) (hI : Wds W'.heap.size W' (some ⟨g, 0, none⟩) (k + 1) (Vz.splitS y.data.toList)) (hv : ErrV W') => told_any k g (Vz.splitS y.data.toList) W' hI hwl (by omega) hv)
    have hME : ∀ W', Below W.heap.size W W' → MaxL W' ∧ ErrV W' ∧ PowTab W' := fun W' h => by
      have := hB.trans (h.mono hB.size)
      exact ⟨hM.below this, hE.below this, hP.below this⟩
    have HME := Lib.hid hME
    have hX := Vz.toldT_text x 1000 hx10
    rw [hy2] at HTO
    generalize hX0 : Vz.toldT x = X at HTO hX
    have HX0 := Lib.hid hX0
    clear hy hy1 hy2 hwl hME hX0
    unfold stpV at HTO
    have HSP1 := Lib.hid (HSP.out W (HME.out W (Below.refl _ _)).1)
    clear HSP
    have HC := Lib.hid (check_any X)
    have HLN := Lib.hid (line_any X)
    unfold stpV at HC HLN
    have HXL := Lib.hid hX
    have hWs : w.heap.size + 1 + 1 + 1 < W.heap.size := bu.lt
    clear hX
    cases hr1 : X.right with
    | false =>
      rw [hr1] at HC
      have HBAD := Lib.hid (Vz.stepOf_bad (.inl (show (Vz.toldT x).right = false by rw [HX0.out]; exact hr1)))
      clear hr1 HLN
      gi_wp2_with (first
        | (refine ⟨trivial, (fun h => by cases h), ?_⟩; gi_at_call 27; refine (CallsIn.inRound l (callsIn_wide.2 (HTR.out _))).mono ?_; rintro e w' ⟨rfl, hw⟩; obtain rfl := hw.symm; clear hw)
        | (refine ⟨trivial, (fun h => by cases h), ?_⟩; gi_at_call 26; refine (CallsIn.inRound l (callsIn_wide.2 HSP1.out)).mono ?_; rintro e w2 ⟨k2, hk2, rfl, hW2, hb2, hl2⟩; have hW3 := hW2.more hl2; have hv3 := (HME.out w2 hb2).2.1; have HT3 := HTO.out k2 _ w2 hk2 hW3 hv3; clear hW2 hW3 hv3)
        | (refine ⟨trivial, (fun h => by cases h), ?_⟩; gi_at_call 25; refine (CallsIn.inRound l (callsIn_wide.2 HT3)).mono ?_; rintro e w3 ⟨rfl, hb3⟩; have hb4 := (below_join hb2 hb3).alloc (below_join hb2 hb3).size (.cells #[.int .i64 X.d, .string ⟨X.text.toArray⟩, .int .i64 X.kind, .int .i64 X.code, .bool X.shift, .bool X.ctrl, .int .i64 X.rows, .int .i64 X.cols, .int .i64 X.to] 33))
        | (refine ⟨trivial, (fun h => by cases h), ?_⟩; gi_at_call 11; refine (CallsIn.inRound l (callsIn_wide.2 (HC.out _))).mono ?_; rintro e w5 ⟨rfl, hb5⟩; simp only [Bool.false_eq_true, if_false]; have hbw := below_join hb4 hb5; have q0 := boxed_below b0 hbw; have q1 := boxed_below b1 hbw; have c0 := q0.cell; have f0 := q0.frozen; have c1 := q1.cell; have f1 := q1.frozen)
        | (show Fence.wide.fn 22 ∧ _; refine ⟨trivial, ?_⟩))
      exact ⟨((keepsOthers_below hbw).trans ((KeepsOthers.setCell _ _ _).trans (KeepsOthers.setCell _ _ _))).from _, rfl, ⟨x, by simp, HBAD.out⟩, ⟨boxed_set (q0.set _) (by omega) _, (boxed_set q1 (by omega) _).set _⟩, ((hB.trans (hbw.mono hB.size)).setCell (p := ⟨w.heap.size, 0, none⟩) (Nat.le_refl _) _).setCell (p := ⟨w.heap.size + 1, 0, none⟩) (by show _ ≤ w.heap.size + 1; omega) _⟩
    | true =>
      rw [hr1] at HC
      have HL1 := Lib.hid (HLN.out hr1 HXL.out)
      clear HLN
      by_cases hxl : X.line = x
      · have HGOOD := Lib.hid (Vz.stepOf_good (show (Vz.toldT x).right = true by rw [HX0.out]; exact hr1) (show (Vz.toldT x).line = x by rw [HX0.out]; exact hxl))
        rw [hxl] at HL1
        clear hxl hr1
        gi_wp2_with (first
          | (refine ⟨trivial, (fun h => by cases h), ?_⟩; gi_at_call 27; refine (CallsIn.inRound l (callsIn_wide.2 (HTR.out _))).mono ?_; rintro e w' ⟨rfl, hw⟩; obtain rfl := hw.symm; clear hw)
          | (refine ⟨trivial, (fun h => by cases h), ?_⟩; gi_at_call 26; refine (CallsIn.inRound l (callsIn_wide.2 HSP1.out)).mono ?_; rintro e w2 ⟨k2, hk2, rfl, hW2, hb2, hl2⟩; have hW3 := hW2.more hl2; have hv3 := (HME.out w2 hb2).2.1; have HT3 := HTO.out k2 _ w2 hk2 hW3 hv3; clear hW2 hW3 hv3)
          | (refine ⟨trivial, (fun h => by cases h), ?_⟩; gi_at_call 25; refine (CallsIn.inRound l (callsIn_wide.2 HT3)).mono ?_; rintro e w3 ⟨rfl, hb3⟩; have hb4 := (below_join hb2 hb3).alloc (below_join hb2 hb3).size (.cells #[.int .i64 X.d, .string ⟨X.text.toArray⟩, .int .i64 X.kind, .int .i64 X.code, .bool X.shift, .bool X.ctrl, .int .i64 X.rows, .int .i64 X.cols, .int .i64 X.to] 33))
          | (refine ⟨trivial, (fun h => by cases h), ?_⟩; gi_at_call 11; refine (CallsIn.inRound l (callsIn_wide.2 (HC.out _))).mono ?_; rintro e w5 ⟨rfl, hb5⟩; simp only [if_true]; have hbw := below_join hb4 hb5; have hx5 := (hb5.block w3.heap.size (by simp)).trans (box_new w3 _); obtain ⟨z0, z1, z2, z3, z4, z5, z6, z7, z8⟩ := nine_cells hx5)
          | (refine ⟨trivial, (fun h => by cases h), ?_⟩; gi_at_call 22; refine (CallsIn.inRound l (callsIn_wide.2 (HL1.out _ (HME.out _ hbw).2.2))).mono ?_; rintro e w6 ⟨rfl, hb6⟩; have hb7 := below_join hbw hb6; have hx6 := (hb6.block w3.heap.size (Array.getElem?_eq_some_iff.1 hx5).1).trans hx5; clear z0 z1 z2 z3 z4 z5 z6 z7 z8; obtain ⟨z0, z1, z2, z3, z4, z5, z6, z7, z8⟩ := nine_cells hx6; have q := boxed_below hv hb7; have hr6 := ownsRow_keep hr hb7; have hc := q.cell; have hf := q.frozen)
          | (gi_at_builtin; refine wpListIn_append_own _ rfl _ _ 22 rfl w.heap.size 33 i0 _ 9 72 Tryd.underlying22 hi hz0 hz1 hz2 rfl (by decide) _ _ _ rfl (hr6.alloc _) ⟨w6.heap.size, 0, none⟩ 1 1 (stpC X) rfl rfl (cells_new w6 (stpC X) _) (by simp [stpC, Value.oneCell']) (by unfold maxLen; omega) (by omega) (by have := hB.size; have := hb7.size; simp; omega) ?_; intro v' w8 hown' hgrow _; obtain ⟨g', cap', rfl⟩ := ownsRow_succ hown'; obtain ⟨hv1, hv2, hr2, hk2', hb2'⟩ := q.appended (by decide) hr6 (by have := hB.size; have := hb7.size; omega) (by omega) hown' hgrow; have hc1 := hv1.cell; have hf1 := hv1.frozen))
        have hbw8 := (hb7.mono hB.size).trans hb2'
        have bu6 := boxed_below bu hb7
        exact ⟨((keepsOthers_below hb7).trans hk2').from _, ⟨(boxed_beside bu6 (by decide) hr6 hgrow (by omega)).trans (Eq.symm bu), fun b hb => hbw8.block b hb⟩, ⟨_, hv2, by
          have e : cellsL (List.map Vz.toldT (pre ++ [x])) = cellsL (List.map Vz.toldT pre) ++ stpC X := by rw [List.map_append, cellsL, List.flatMap_append, List.map_cons, HX0.out]; simp [cellsL]
          rw [e]
          simpa using hr2⟩, by
          intro y hy
          rcases List.mem_append.1 hy with h | h
          · exact hp y h
          · rw [List.mem_singleton.1 h]; exact HGOOD.out.trans (by rw [HX0.out]), ⟨boxed_beside (boxed_below b0 hb7) (by decide) hr6 hgrow (by omega), boxed_beside (boxed_below b1 hb7) (by decide) hr6 hgrow (by omega), u, boxed_beside bu6 (by decide) hr6 hgrow (by omega)⟩, hB.trans hbw8⟩
      · have HBAD := Lib.hid (Vz.stepOf_bad (.inr (show (Vz.toldT x).line ≠ x by rw [HX0.out]; exact hxl)))
        have hne : (X.line == x) = false := by simpa using hxl
        clear hxl hr1
        gi_wp2_with (first
          | (refine ⟨trivial, (fun h => by cases h), ?_⟩; gi_at_call 27; refine (CallsIn.inRound l (callsIn_wide.2 (HTR.out _))).mono ?_; rintro e w' ⟨rfl, hw⟩; obtain rfl := hw.symm; clear hw)
          | (refine ⟨trivial, (fun h => by cases h), ?_⟩; gi_at_call 26; refine (CallsIn.inRound l (callsIn_wide.2 HSP1.out)).mono ?_; rintro e w2 ⟨k2, hk2, rfl, hW2, hb2, hl2⟩; have hW3 := hW2.more hl2; have hv3 := (HME.out w2 hb2).2.1; have HT3 := HTO.out k2 _ w2 hk2 hW3 hv3; clear hW2 hW3 hv3)
          | (refine ⟨trivial, (fun h => by cases h), ?_⟩; gi_at_call 25; refine (CallsIn.inRound l (callsIn_wide.2 HT3)).mono ?_; rintro e w3 ⟨rfl, hb3⟩; have hb4 := (below_join hb2 hb3).alloc (below_join hb2 hb3).size (.cells #[.int .i64 X.d, .string ⟨X.text.toArray⟩, .int .i64 X.kind, .int .i64 X.code, .bool X.shift, .bool X.ctrl, .int .i64 X.rows, .int .i64 X.cols, .int .i64 X.to] 33))
          | (refine ⟨trivial, (fun h => by cases h), ?_⟩; gi_at_call 11; refine (CallsIn.inRound l (callsIn_wide.2 (HC.out _))).mono ?_; rintro e w5 ⟨rfl, hb5⟩; simp only [if_true]; have hbw := below_join hb4 hb5; have hx5 := (hb5.block w3.heap.size (by simp)).trans (box_new w3 _); obtain ⟨z0, z1, z2, z3, z4, z5, z6, z7, z8⟩ := nine_cells hx5)
          | (refine ⟨trivial, (fun h => by cases h), ?_⟩; gi_at_call 22; refine (CallsIn.inRound l (callsIn_wide.2 (HL1.out _ (HME.out _ hbw).2.2))).mono ?_; rintro e w6 ⟨rfl, hb6⟩; have hb7 := below_join hbw hb6; have q0 := boxed_below b0 hb7; have q1 := boxed_below b1 hb7; have c0 := q0.cell; have f0 := q0.frozen; have c1 := q1.cell; have f1 := q1.frozen))
        exact ⟨((keepsOthers_below hb7).trans ((KeepsOthers.setCell _ _ _).trans (KeepsOthers.setCell _ _ _))).from _, rfl, ⟨x, by simp, HBAD.out⟩, ⟨boxed_set (q0.set _) (by omega) _, (boxed_set q1 (by omega) _).set _⟩, ((hB.trans (hb7.mono hB.size)).setCell (p := ⟨w.heap.size, 0, none⟩) (Nat.le_refl _) _).setCell (p := ⟨w.heap.size + 1, 0, none⟩) (by show _ ≤ w.heap.size + 1; omega) _⟩
  case done =>
    rintro D ys W hD rfl ⟨⟨v, hv, hr⟩, hp, ⟨b0, b1, u, bu⟩, hB⟩ hK
    have hc := hv.cell
    have c0 := b0.cell
    have f0 := b0.frozen
    have c1 := b1.cell
    have f1 := b1.frozen
    have HN := Lib.hid (Vz.parseL_good _ hp)
    clear hp
    obtain ⟨va, vc, rfl⟩ := ownsRow_slice hr
    generalize hK0 : (Vz.linesOf T.data.toList).length = K at hr hv hc
    have HK0 := Lib.hid hK0
    clear hK0
    gi_wp2
    have hr2 := ownsRow_setBox (ownsRow_setBox hr b0 (by decide) (.slice va K vc)) (boxed_set b1 (by omega) _) (by decide) (.int .i64 0)
    have d0 := boxed_set (b0.set (.slice va K vc)) (by omega : w.heap.size ≠ w.heap.size + 1) (.int .i64 0)
    have d1 := (boxed_set b1 (by omega : w.heap.size + 1 ≠ w.heap.size) (.slice va K vc)).set (.int .i64 0)
    have hK2 : ((W.setCell ⟨w.heap.size, 0, none⟩ (Value.slice va K vc)).setCell ⟨w.heap.size + 1, 0, none⟩ (Value.int .i64 0)).heap[D]? = some (.deferred (some [])) :=
      (Below.heap_setCell _ _ _ _ (by show D ≠ w.heap.size + 1; simp at hD; omega)).trans ((Below.heap_setCell _ _ _ _ (by show D ≠ w.heap.size; simp at hD; omega)).trans hK)
    have hB2 : Below w.heap.size w ((W.setCell ⟨w.heap.size, 0, none⟩ (Value.slice va K vc)).setCell ⟨w.heap.size + 1, 0, none⟩ (Value.int .i64 0)) := (hB.setCell (p := ⟨w.heap.size, 0, none⟩) (Nat.le_refl _) _).setCell (p := ⟨w.heap.size + 1, 0, none⟩) (by show _ ≤ w.heap.size + 1; omega) _
    refine ⟨by simp, .inl ⟨_, _, rfl, run_takeDeferred hK2, ?_⟩⟩
    have hh := grownBy_putObj' ((W.setCell ⟨w.heap.size, 0, none⟩ (Value.slice va K vc)).setCell ⟨w.heap.size + 1, 0, none⟩ (Value.int .i64 0)) D (.deferred none)
    have e0 := (boxed_keptC d0 hh (D := 0) (fun r e => by cases e; exact ⟨Nat.zero_le _, _, hK2, rfl⟩)).cell
    have e1 := (boxed_keptC d1 hh (D := 0) (fun r e => by cases e; exact ⟨Nat.zero_le _, _, hK2, rfl⟩)).cell
    refine ⟨.tuple #[.slice va K vc, .int .i64 0], by simp [results, Tryd.results14, go_sem, e0, e1], .slice va K vc, by rw [← HZ.out, HN.out]; rfl, ?_, hB2.grown hh hB2.size (fun k e => by cases e; simp at hD; omega)⟩
    rw [HN.out]
    have := ownsRow_keptC hr2 hh (D := 0) (fun r e => by cases e; exact ⟨Nat.zero_le _, _, hK2, rfl⟩)
    rw [← HK0.out] at this ⊢
    simpa using this
  case stop =>
    rintro D c pre W hD hpre ⟨rfl, ⟨x, hx, hxb⟩, ⟨b0, b1⟩, hB⟩ hK
    have HN := Lib.hid (Vz.parseL_bad _ x (hpre.subset hx) hxb)
    clear hx hxb
    gi_wp2
    refine ⟨by simp, .inl ⟨_, _, rfl, run_takeDeferred hK, ?_⟩⟩
    have hh := grownBy_putObj' W D (.deferred none)
    have e0 := (boxed_keptC b0 hh (D := 0) (fun r e => by cases e; exact ⟨Nat.zero_le _, _, hK, rfl⟩)).cell
    have e1 := (boxed_keptC b1 hh (D := 0) (fun r e => by cases e; exact ⟨Nat.zero_le _, _, hK, rfl⟩)).cell
    refine ⟨.tuple #[.slice none 0 0, .int .i64 14], by simp [results, Tryd.results14, go_sem, e0, e1], .slice none 0 0, by rw [← HZ.out, HN.out]; rfl, ?_, hB.grown hh hB.size (fun k e => by cases e; simp at hD; omega)⟩
    rw [HN.out]
    exact World.ownsRow_nil _ _ _ _

end Go.Proofs.YtfkbgnonkgaobaaDoor
