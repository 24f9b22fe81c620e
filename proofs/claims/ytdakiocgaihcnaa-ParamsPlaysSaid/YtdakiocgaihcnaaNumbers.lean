/- Walks: params.Numbers. -/
import Derived.Test.YtdakiocgaihcnaaNum
import Derived.Test.YtdakiocgaihcnaaParts
import Derived.Maps.AppendAt
namespace Go.Proofs.Ytdakiocgaihcnaa
open Go.RowKit Go.Shelf
attribute [local go_sem] Oper.semAt_some

theorem infoInt : (Try.prog.info? 3).map (fun i => (i.zero, i.size, i.bytes)) = some (some (.int .i64 0), 1, 8) := by kernel_rfl

set_option maxRecDepth 100000 in
set_option maxHeartbeats 2000000 in
theorem numbers_in (n : Nat) (hn : 3 ≤ n) (s : ByteArray) (hs : s.size ≤ 4000000) (w : World) :
    CallsIn Fence.wide n Try.prog 10 #[.string s] w fun e W' => ∃ v, e = .returned (.tuple #[v, .bool (Vz.numbers s.data.toList).2]) ∧
      W'.ownsRow w.heap.size 3 1 v (Vz.numbers s.data.toList).1.length ((Vz.numbers s.data.toList).1.map (Value.int .i64)) ∧ Below w.heap.size w W' := by
  have h1 : 1 ≤ n := by omega
  have hs' : s.size ≤ maxLen := by unfold maxLen; omega
  obtain ⟨i0, hi, hz0, hz1, hz2⟩ := info_parts infoInt
  refine callsIn_of_wp_marks Try.func10 rfl trivial ?_ rfl
  simp only [Try.ntmps10, List.size_toArray, List.length_cons, List.length_nil, Nat.reduceAdd, Nat.reduceSub, Array.replicate_succ, Array.replicate_zero, List.push_toArray, List.append_toArray, List.nil_append, List.cons_append]
  gi_wp2_with (refine ⟨trivial, ?_⟩; gi_at_call 22; refine (parts_in (n - 1) s _).mono ?_; rintro e w' ⟨rfl, rfl⟩)
  have bR0 := Boxed.new w 23 (.slice none 0 0)
  have bR1 := Boxed.new (w.alloc (.cells #[.slice none 0 0] 23)) 4 (.bool false)
  have bO := Boxed.new ((w.alloc (.cells #[.slice none 0 0] 23)).alloc (.cells #[.bool false] 4)) 23 (.slice none 0 0)
  have bS := Boxed.new (((w.alloc (.cells #[.slice none 0 0] 23)).alloc (.cells #[.bool false] 4)).alloc (.cells #[.slice none 0 0] 23)) 9 (.string s)
  rw [World.size_alloc] at bR1
  rw [World.size_alloc, World.size_alloc] at bO
  rw [World.size_alloc, World.size_alloc, World.size_alloc] at bS
  have hB0 : Below w.heap.size w ((((w.alloc (.cells #[.slice none 0 0] 23)).alloc (.cells #[.bool false] 4)).alloc (.cells #[.slice none 0 0] 23)).alloc (.cells #[.string s] 9)) :=
    ((((Below.refl _ w).alloc (Nat.le_refl _) _).alloc (by simp) _).alloc (by simp; omega) _).alloc (by simp; omega) _
  have hPL := Vz.partsB_len s.data.toList
  rw [← Lib.size_eq] at hPL
  refine wpIn_rangeFunc_ownC rfl h1 (gf := 25) (lb := #[.pointer (some ⟨w.heap.size + 1 + 1 + 1, 0, none⟩)]) rfl trivial (enters_of Try.func25 (by kernel_rfl) rfl)
    (Bc := w.heap.size + 1 + 1 + 1) (parts_stops (n - 1) (by omega) s hs' (w.heap.size + 1 + 1 + 1) _ bS) (by simp) (fun h k => k.trans h) (fun W l o o' hl _ _ _ => World.putObj_heap_other (by simp at hl; omega)) (Below.refl _ _) (fun _ => rfl)
    (fun pre W => (∃ v, Boxed W (w.heap.size + 1 + 1) 23 v ∧ W.ownsRow w.heap.size 3 1 v pre.length (pre.map fun x => Value.int .i64 (Vz.numB x).1)) ∧ (∀ x ∈ pre, (Vz.numB x).2 = true) ∧ (Boxed W w.heap.size 23 (.slice none 0 0) ∧ Boxed W (w.heap.size + 1) 4 (.bool false) ∧ ∃ u, Boxed W (w.heap.size + 1 + 1 + 1) 9 u) ∧ Below w.heap.size w W)
    (fun c pre W => c = .ret ∧ (∃ x ∈ pre, (Vz.numB x).2 = false) ∧ (Boxed W w.heap.size 23 (.slice none 0 0) ∧ Boxed W (w.heap.size + 1) 4 (.bool false)) ∧ Below w.heap.size w W)
    ?hI ?hIx ?hIc ?hIxc ?h0
    (fun x => { tmps := #[.string s, undef, .pointer (some ⟨w.heap.size, 0, none⟩), .pointer (some ⟨w.heap.size + 1, 0, none⟩), .pointer (some ⟨w.heap.size + 1 + 1, 0, none⟩), .string x, undef, undef, .string s, .func (.func 25) #[] #[.pointer (some ⟨w.heap.size + 1 + 1 + 1, 0, none⟩)], .string x, undef, undef, undef, undef, undef, undef, undef, undef, undef, undef, undef, undef], defers := [] }) ?assign ?body ?done ?stop
  case hI =>
    rintro pre X Y row ⟨⟨v, hv, hr⟩, hp, ⟨b0, b1, u, bu⟩, hB⟩ hg hrow
    exact ⟨⟨v, boxed_keptC hv hg hrow, ownsRow_keptC hr hg hrow⟩, hp, ⟨boxed_keptC b0 hg hrow, boxed_keptC b1 hg hrow, u, boxed_keptC bu hg hrow⟩, hB.grown hg hB.size (fun k e => by have := (hrow k e).1; simp at this; omega)⟩
  case hIx =>
    rintro c pre X Y row ⟨hc, hp, ⟨b0, b1⟩, hB⟩ hg hrow
    exact ⟨hc, hp, ⟨boxed_keptC b0 hg hrow, boxed_keptC b1 hg hrow⟩, hB.grown hg hB.size (fun k e => by have := (hrow k e).1; simp at this; omega)⟩
  case hIc =>
    rintro pre X x ⟨⟨v, hv, hr⟩, hp, ⟨b0, b1, u, bu⟩, hB⟩
    exact ⟨⟨v, boxed_set hv (by omega) _, ownsRow_setBox hr bu (by decide) _⟩, hp, ⟨boxed_set b0 (by omega) _, boxed_set b1 (by omega) _, x, bu.set x⟩, hB.setCell (p := ⟨w.heap.size + 1 + 1 + 1, 0, none⟩) (by show _ ≤ w.heap.size + 1 + 1 + 1; omega) _⟩
  case hIxc =>
    rintro c pre X x ⟨hc, hp, ⟨b0, b1⟩, hB⟩
    exact ⟨hc, hp, ⟨boxed_set b0 (by omega) _, boxed_set b1 (by omega) _⟩, hB.setCell (p := ⟨w.heap.size + 1 + 1 + 1, 0, none⟩) (by show _ ≤ w.heap.size + 1 + 1 + 1; omega) _⟩
  case h0 =>
    exact ⟨⟨_, bO.alloc _, World.ownsRow_nil _ _ _ _⟩, by simp, ⟨((bR0.alloc _).alloc _).alloc _, (bR1.alloc _).alloc _, _, bS⟩, hB0⟩
  case assign =>
    intro l x W K hK
    gi_wp2
    exact hK
  case body =>
    rintro l pre x W ⟨⟨v, hv, hr⟩, hp, ⟨b0, b1, u, bu⟩, hB⟩ hlt
    have hc := hv.cell
    have hf := hv.frozen
    have c0 := b0.cell
    have f0 := b0.frozen
    have c1 := b1.cell
    have f1 := b1.frozen
    have hpl : pre.length ≤ s.size := by have := hlt.length_le; simp at this; omega
    have hmx : pre.length + 1 ≤ maxLen := by unfold maxLen; omega
    have hxs : x.size ≤ maxLen := by
      have := Vz.partsB_each s.data.toList x (hlt.subset (by simp))
      rw [← Lib.size_eq] at this; omega
    cases hb : (Vz.numB x).2 with
    | false =>
      have HB := Lib.hid hb
      clear hb
      gi_wp2_with (refine ⟨trivial, (fun h => by cases h), ?_⟩; gi_at_call 23; refine (CallsIn.inRound l (callsIn_wide.2 (number_any x W hxs))).mono ?_; rintro e w' ⟨rfl, rfl⟩; rw [show (Vz.number x.data.toList).2 = false from HB.out])
      exact ⟨((KeepsOthers.setCell _ _ _).trans (KeepsOthers.setCell _ _ _)).from _, rfl, ⟨x, by simp, HB.out⟩, ⟨boxed_set (b0.set _) (by omega) _, (boxed_set b1 (by omega) _).set _⟩, (hB.setCell (p := ⟨w.heap.size, 0, none⟩) (Nat.le_refl _) _).setCell (p := ⟨w.heap.size + 1, 0, none⟩) (by show _ ≤ w.heap.size + 1; omega) _⟩
    | true =>
      have HB := Lib.hid hb
      clear hb
      gi_wp2_with (first | (refine ⟨trivial, (fun h => by cases h), ?_⟩; gi_at_call 23; refine (CallsIn.inRound l (callsIn_wide.2 (number_any x W hxs))).mono ?_; rintro e w' ⟨rfl, rfl⟩; rw [show (Vz.number x.data.toList).2 = true from HB.out]) | (gi_at_builtin; refine wpListIn_append_own _ rfl _ _ 23 rfl w.heap.size 3 i0 (.int .i64 0) 1 8 Try.underlying23 hi hz0 hz1 hz2 rfl (by decide) _ _ _ rfl (hr.alloc _) ⟨W.heap.size, 0, none⟩ 1 1 [.int .i64 (Vz.number x.data.toList).1] rfl rfl (cell_one_new _ _ _) (by simp [Value.oneCell']) (by omega) (by omega) (by have := hB.size; simp; omega) ?_; intro v' w1 hown' hgrow _; obtain ⟨g', cap', rfl⟩ := ownsRow_succ hown'; obtain ⟨hv1, hv2, hr2, hk2, hb2⟩ := hv.appended (by decide) hr hB.size (by omega) hown' hgrow; have hc1 := hv1.cell; have hf1 := hv1.frozen))
      exact ⟨hk2.from _, (boxed_beside bu (by decide) hr hgrow (by omega)).trans (Eq.symm bu), ⟨_, hv2, by simpa [Vz.numB] using hr2⟩, by
        intro y hy
        rcases List.mem_append.1 hy with h | h
        · exact hp y h
        · rw [List.mem_singleton.1 h]; exact HB.out, ⟨boxed_beside b0 (by decide) hr hgrow (by omega), boxed_beside b1 (by decide) hr hgrow (by omega), u, boxed_beside bu (by decide) hr hgrow (by omega)⟩, hB.trans hb2⟩
  case done =>
    rintro D ys W hD rfl ⟨⟨v, hv, hr⟩, hp, ⟨b0, b1, u, bu⟩, hB⟩ hK
    have hc := hv.cell
    have c0 := b0.cell
    have f0 := b0.frozen
    have c1 := b1.cell
    have f1 := b1.frozen
    have HN := Lib.hid (Vz.numbers_all s.data.toList hp)
    clear hp
    obtain ⟨va, vc, rfl⟩ := ownsRow_slice hr
    gi_wp2
    have hr2 := ownsRow_setBox (ownsRow_setBox hr b0 (by decide) (.slice va (Vz.partsB s.data.toList).length vc)) (boxed_set b1 (by omega) _) (by decide) (.bool true)
    have d0 := boxed_set (b0.set (.slice va (Vz.partsB s.data.toList).length vc)) (by omega : w.heap.size ≠ w.heap.size + 1) (.bool true)
    have d1 := (boxed_set b1 (by omega : w.heap.size + 1 ≠ w.heap.size) (.slice va (Vz.partsB s.data.toList).length vc)).set (.bool true)
    have hK2 : ((W.setCell ⟨w.heap.size, 0, none⟩ (Value.slice va (Vz.partsB s.data.toList).length vc)).setCell ⟨w.heap.size + 1, 0, none⟩ (Value.bool true)).heap[D]? = some (.deferred (some [])) :=
      (Below.heap_setCell _ _ _ _ (by show D ≠ w.heap.size + 1; simp at hD; omega)).trans ((Below.heap_setCell _ _ _ _ (by show D ≠ w.heap.size; simp at hD; omega)).trans hK)
    have hB2 : Below w.heap.size w ((W.setCell ⟨w.heap.size, 0, none⟩ (Value.slice va (Vz.partsB s.data.toList).length vc)).setCell ⟨w.heap.size + 1, 0, none⟩ (Value.bool true)) := (hB.setCell (p := ⟨w.heap.size, 0, none⟩) (Nat.le_refl _) _).setCell (p := ⟨w.heap.size + 1, 0, none⟩) (by show _ ≤ w.heap.size + 1; omega) _
    refine ⟨by simp, .inl ⟨_, _, rfl, run_takeDeferred hK2, ?_⟩⟩
    have hh := grownBy_putObj' ((W.setCell ⟨w.heap.size, 0, none⟩ (Value.slice va (Vz.partsB s.data.toList).length vc)).setCell ⟨w.heap.size + 1, 0, none⟩ (Value.bool true)) D (.deferred none)
    have e0 := (boxed_keptC d0 hh (D := 0) (fun r e => by cases e; exact ⟨Nat.zero_le _, _, hK2, rfl⟩)).cell
    have e1 := (boxed_keptC d1 hh (D := 0) (fun r e => by cases e; exact ⟨Nat.zero_le _, _, hK2, rfl⟩)).cell
    refine ⟨.tuple #[.slice va (Vz.partsB s.data.toList).length vc, .bool true], by simp [results, Try.results10, go_sem, e0, e1], .slice va (Vz.partsB s.data.toList).length vc, by rw [HN.out], ?_, hB2.grown hh hB2.size (fun k e => by cases e; simp at hD; omega)⟩
    rw [HN.out]
    have := ownsRow_keptC hr2 hh (D := 0) (fun r e => by cases e; exact ⟨Nat.zero_le _, _, hK2, rfl⟩)
    simpa [Function.comp_def] using this
  case stop =>
    rintro D c pre W hD hpre ⟨rfl, ⟨x, hx, hxb⟩, ⟨b0, b1⟩, hB⟩ hK
    have HN := Lib.hid (Vz.numbers_bad s.data.toList x (hpre.subset hx) hxb)
    clear hx hxb
    gi_wp2
    refine ⟨by simp, .inl ⟨_, _, rfl, run_takeDeferred hK, ?_⟩⟩
    have hh := grownBy_putObj' W D (.deferred none)
    have e0 := (boxed_keptC b0 hh (D := 0) (fun r e => by cases e; exact ⟨Nat.zero_le _, _, hK, rfl⟩)).cell
    have e1 := (boxed_keptC b1 hh (D := 0) (fun r e => by cases e; exact ⟨Nat.zero_le _, _, hK, rfl⟩)).cell
    refine ⟨.tuple #[.slice none 0 0, .bool false], by simp [results, Try.results10, go_sem, e0, e1], .slice none 0 0, by rw [HN.out], ?_, hB.grown hh hB.size (fun k e => by cases e; simp at hD; omega)⟩
    rw [HN.out]
    exact World.ownsRow_nil _ _ _ _

/-- params.Numbers: it answers the numbers of a text; nothing that lay has turned. -/
theorem numbers_any (s : ByteArray) (hs : s.size ≤ 4000000) (w : World) :
    Calls Try.prog 10 #[.string s] w fun e W' => ∃ v, e = .returned (.tuple #[v, .bool (Vz.numbers s.data.toList).2]) ∧
      W'.ownsRow w.heap.size 3 1 v (Vz.numbers s.data.toList).1.length ((Vz.numbers s.data.toList).1.map (Value.int .i64)) ∧ Below w.heap.size w W' :=
  callsIn_wide.1 (numbers_in 3 (Nat.le_refl _) s hs w)

end Go.Proofs.Ytdakiocgaihcnaa
