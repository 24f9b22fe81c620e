import Derived.Test.YtmgeghoalmonoaaGreatDoorRemT
import Derived.Maps.AppendAt
import Derived.Deep.RegionLaw

/- Walks: items: a body's list. -/
namespace Go.Proofs.YtmgeghoalmonoaaGreatDoor
open Go.RowKit
set_option linter.unusedSimpArgs false
set_option linter.unusedVariables false
set_option maxRecDepth 100000
attribute [local go_sem] alloc_drewN setCell_drewN World.cell?_alloc_some frozen_alloc_some

theorem own_keptB {W W' : World} {base : Nat} {e : TypeId} {size n : Nat} {V : Value} {xs : List Value} (h : W.ownsRow base e size V n xs) (hb : Below W.heap.size W W') : W'.ownsRow base e size V n xs := by
  obtain ⟨hl, h⟩ := h
  refine ⟨hl, ?_⟩
  rcases h with h | ⟨g, cap, cur, rfl, hb', hg, rest⟩
  · exact .inl h
  · exact .inr ⟨g, cap, cur, rfl, hb', (hb.block g (block_lt hg)).trans hg, rest⟩
theorem step_append_own {P : Program} {ops : Array Oper} {o : Oper} {a : Act} {w : World} {K : Act → World → Prop} {Q : Exit → Act → World → Prop} {E : Prop}
    (hg : o.guard = none) (s x : Operand) (t : TypeId) (hop : o.op = Op.call { callee := Callee.builtin Builtin.append, args := #[s, x], argTypes := #[t, t] })
    (base : Nat) (e : TypeId) (i : TypeInfo) (z : Value) (size bytes : Nat) (h1 : P.underlying t = some (.slice e)) (h2 : P.info? e = some i) (h3 : i.zero = some z) (h4 : i.size = size) (h5 : i.bytes = bytes) (h6 : z.cells.size = size) (h7 : 0 < size)
    (v : Value) (n : Nat) (xs : List Value) (hs : a.eval s = v) (hown : w.ownsRow base e size v n xs)
    (ad : Addr) (m c : Nat) (news : List Value) (hx : a.eval x = .slice (some ad) m c) (hn : news.length = m * size) (hc : ∀ j u, news[j]? = some u → w.cell? (ad.add j) = some u) (h1c : ∀ u ∈ news, u.oneCell' = true)
    (b1 : n + m ≤ maxLen) (b2 : (n + m) * bytes ≤ 140737488355328) (hbase : base ≤ w.heap.size)
    (hK : ∀ v' w', w'.ownsRow base e size v' (n + m) (xs ++ news) → w.grownBy w' v.ownBlock → (v'.ownBlock = v.ownBlock ∨ v'.ownBlock = some w.heap.size) → K (a.put o.dst v') w') :
    if Region.wanted o (yielded ops a.tmps) = true then Oper.wp P o a w K Q else E := by
  have hw : Region.wanted o (yielded ops a.tmps) = true := by simp [Region.wanted, hg]
  rw [if_pos hw]
  obtain ⟨v', w', hrun, r1, r2, _, r4⟩ := run_append_own_at (P := P) w base t o.type e i z size bytes h1 h2 h3 h4 h5 h6 h7 v n xs hown ad m c news hn hc h1c b1 b2 hbase
  unfold Oper.wp
  simp [execOp, hop, resolve, invoke, builtin, hs, hx, hrun, Result.andThen]
  exact hK v' w' r1 r2 r4
def sumL (L : List It) : Nat := (L.map fun x => x.2.2.size).sum
theorem sumL_snoc (L : List It) (x : It) : sumL (L ++ [x]) = sumL L + x.2.2.size := by simp [sumL]
theorem rowI_snoc (L : List It) (x : It) : rowI (L ++ [x]) = rowI L ++ [.bool x.1, .int .i64 x.2.1, .string x.2.2] := by simp [rowI]
/-- A list that grows. -/
def ItI (s : ByteArray) (w : World) (t : ByteArray) (W : World) : Prop :=
  ∃ (L : List It) (v : Value), W.heap[w.heap.size]? = some (.cells #[v] 231 (0, 0)) ∧ W.ownsRow (w.heap.size + 1) 191 3 v L.length (rowI L) ∧
    (sumL L + t.size ≤ s.size ∧ L.length + t.size ≤ s.size ∧ ∀ x ∈ L, 0 ≤ x.2.1 ∧ x.2.1 ≤ 255) ∧ Below w.heap.size w W
def OkL (L : List It) (n : Nat) : Prop := sumL L ≤ n ∧ L.length ≤ n ∧ ∀ x ∈ L, 0 ≤ x.2.1 ∧ x.2.1 ≤ 255
def ItemsP (s : ByteArray) (w : World) (e : Ending) (w' : World) : Prop :=
  Below w.heap.size w w' ∧ (e = .returned (.tuple #[.pointer none, .bool false]) ∨ ∃ L, e = .returned (.tuple #[.pointer (some ⟨w.heap.size, 0, none⟩), .bool true]) ∧ L ≠ [] ∧ LstV w' w.heap.size w'.heap.size L ∧ OkL L s.size)
def strOf : Value → ByteArray
  | .string t => t
  | _ => ⟨#[]⟩
theorem infoItem : (Tryz.prog.info? 191).map (fun i => (i.zero, i.size, i.bytes)) = some (some (.agg #[.bool false, .int .i64 0, .string ⟨#[]⟩]), 3, 32) := by kernel_rfl
theorem cell_three_new (W : World) (a b c : Value) (t : TypeId) : ∀ j u, ([a, b, c] : List Value)[j]? = some u → (W.alloc (.cells #[a, b, c] t)).cell? ((⟨W.heap.size, 0, none⟩ : Addr).add j) = some u := by
  intro j u hj
  have hx := heap_alloc_new W (.cells #[a, b, c] t)
  rcases j with _ | _ | _ | j
  · cases hj; exact cell_row hx 0
  · cases hj; exact cell_row hx 1
  · cases hj; exact cell_row hx 2
  · simp at hj
set_option maxHeartbeats 8000000 in
theorem items_ok (s : ByteArray) (h2 : s.size ≤ 1000) (w : World) : Calls Tryz.prog 112 #[.string s] w fun e w' => ItemsP s w e w' := by
  obtain ⟨i0, hi, hz0, hz1, hz2⟩ := info_parts infoItem
  have HST : Hid (ItI s w s (w.alloc (.cells #[.slice none 0 0] 231))) := ⟨[], _, heap_alloc_new w _, World.ownsRow_nil _ _ _ _, ⟨by simp [sumL], by simp, by simp⟩, below1 _ _⟩
  go_enter Tryz.func112, Tryz.ntmps112
  go_wp2_with fail
  go_loopw [0] (fun sv wr => ∃ t : ByteArray, sv = .string t ∧ ItI s w t wr) (fun sv _ => (strOf sv).size)
  case atStart => exact ⟨s, rfl, HST.out⟩
  case round =>
    obtain ⟨t, rfl, hi⟩ := hrel
    have HI := Lib.hid hi
    clear hi
    obtain ⟨L0, v0, hb0, ho0, hs0, hbl0⟩ := HI.out
    have htl : t.size ≤ s.size := by have := hs0.1; omega
    have HNUM := Lib.hid (number_ok t (by omega))
    have HQUO := Lib.hid (fun h => quoted_ok t h (by omega))
    clear hb0 ho0 hs0 hbl0
    have hcase : t.size = 0 ∨ (∃ h : 0 < t.size, (t[0]'h).toNat = 34 ∨ (¬ (t[0]'h).toNat = 34 ∧ (t[0]'h).toNat = 39) ∨ (¬ (t[0]'h).toNat = 34 ∧ ¬ (t[0]'h).toNat = 39)) := by
      by_cases h : 0 < t.size
      · refine .inr ⟨h, ?_⟩
        by_cases h3 : (t[0]'h).toNat = 34
        · exact .inl h3
        · by_cases h4 : (t[0]'h).toNat = 39
          · exact .inr (.inl ⟨h3, h4⟩)
          · exact .inr (.inr ⟨h3, h4⟩)
      · exact .inl (by omega)
    go_upto_region 3 with fail
    rcases hcase with h0 | ⟨hpos, hq | ⟨hq1, hq2⟩ | ⟨hq1, hq2⟩⟩
    case' inl =>
      have hne : t.toList.isEmpty = true := by rw [ByteArray.toList_eq, List.isEmpty_iff]; exact List.eq_nil_of_length_eq_zero h0
      go_upto_region 6 with (go_at_call 139; refine (HNUM.out _).mono ?_; rintro e w1 ⟨nb, x, tx, rest, b, rfl, hx, hsz, hlt, hb1⟩)
    case' inr.inl =>
      have hne : t.toList.isEmpty = false := by rw [ByteArray.toList_eq]; cases hh : t.data.toList with | nil => exact absurd (show t.data.toList.length = t.size from rfl) (by rw [hh]; simp; omega) | cons a l => rfl
      have z1 : (((t[0]'hpos).toNat : Int) == 34) = true := beq_iff_eq.2 (by omega)
      go_upto_region 6 with (go_at_call 140; refine (HQUO.out hpos _).mono ?_; rintro e w1 ⟨nb, x, tx, rest, b, rfl, hx, hsz, hlt, hb1⟩)
    case' inr.inr.inl =>
      have hne : t.toList.isEmpty = false := by rw [ByteArray.toList_eq]; cases hh : t.data.toList with | nil => exact absurd (show t.data.toList.length = t.size from rfl) (by rw [hh]; simp; omega) | cons a l => rfl
      have z1 : (((t[0]'hpos).toNat : Int) == 34) = false := beq_eq_false_iff_ne.2 (by omega)
      have z2 : (((t[0]'hpos).toNat : Int) == 39) = true := beq_iff_eq.2 (by omega)
      go_upto_region 6 with (go_at_call 140; refine (HQUO.out hpos _).mono ?_; rintro e w1 ⟨nb, x, tx, rest, b, rfl, hx, hsz, hlt, hb1⟩)
    case' inr.inr.inr =>
      have hne : t.toList.isEmpty = false := by rw [ByteArray.toList_eq]; cases hh : t.data.toList with | nil => exact absurd (show t.data.toList.length = t.size from rfl) (by rw [hh]; simp; omega) | cons a l => rfl
      have z1 : (((t[0]'hpos).toNat : Int) == 34) = false := beq_eq_false_iff_ne.2 (by omega)
      have z2 : (((t[0]'hpos).toNat : Int) == 39) = false := beq_eq_false_iff_ne.2 (by omega)
      go_upto_region 6 with (go_at_call 139; refine (HNUM.out _).mono ?_; rintro e w1 ⟨nb, x, tx, rest, b, rfl, hx, hsz, hlt, hb1⟩)
    all_goals (
      clear hne
      obtain ⟨L, v, hbx, hown, ⟨hs1, hs2, hs3⟩, hbw⟩ := HI.out
      have hx5 := heap_alloc_new w1 (.cells #[.bool nb, .int .i64 x, .string tx] 191)
      have hb5 : Below wr.heap.size wr (w1.alloc (.cells #[.bool nb, .int .i64 x, .string tx] 191)) := hb1.alloc hb1.size _
      have hsz1 := hb1.size
      have hlb := block_lt hbx
      generalize w1.alloc (.cells #[.bool nb, .int .i64 x, .string tx] 191) = W5 at hx5 hb5 ⊢
      generalize w1.heap.size = it at *
      have HB5 : Hid (Below w.heap.size w W5) := hbw.trans (hb5.mono hbw.size)
      have HBX : Hid (W5.heap[w.heap.size]? = some (.cells #[v] 231 (0, 0)) ∧ W5.heap[it]? = some (.cells #[.bool nb, .int .i64 x, .string tx] 191 (0, 0))) := ⟨(hb5.block _ hlb).trans hbx, hx5⟩
      have HOW : Hid (W5.ownsRow (w.heap.size + 1) 191 3 v L.length (rowI L)) := hown.kept (row := none) ⟨hb5.os, hb5.tape, hb5.output, hb5.size, fun i hi _ => hb5.block i hi⟩ (by cases v.ownBlock <;> simp)
      have HIT : Hid (∀ k, v.ownBlock = some k → k < it) := fun k hk => Nat.lt_of_lt_of_le (hown.lt k hk).2 hsz1
      clear hx5 hb5 hbx hown hbw hb1
      cases b
      · go_wp2_with fail
        go_ret2
        exact ⟨HB5.out, .inl rfl⟩
      have hltr := hlt rfl
      obtain ⟨va, vn, vc, rfl⟩ : ∃ va vn vc, v = .slice va vn vc := by
        rcases HOW.out.2 with ⟨hv, _⟩ | ⟨g, cap, cur, hv, _⟩
        · exact ⟨none, 0, 0, hv⟩
        · exact ⟨_, _, _, hv⟩
      have HSZ : Hid (w.heap.size + 1 ≤ (W5.alloc (.cells #[.bool nb, .int .i64 x, .string tx] 191)).heap.size) := by
        show _ ≤ _
        rw [World.size_alloc]
        have := block_lt HBX.out.1
        omega
      have HNE : Hid ((Value.slice va vn vc).ownBlock ≠ some w.heap.size ∧ (Value.slice va vn vc).ownBlock ≠ some it) := ⟨fun e => by have := (HOW.out.lt _ e).1; omega, fun e => by have := HIT.out _ e; omega⟩
      have HOX : Hid (((W5.alloc (.cells #[.bool nb, .int .i64 x, .string tx] 191)).drew).ownsRow (w.heap.size + 1) 191 3 (.slice va vn vc) L.length (rowI L)) := own_keptB HOW.out ((below1 W5 _).drew)
      go_upto_region 8 with fail
      refine wp_region_noPanic ?_
      refine wp_region_k (S := fun W : World => (W.heap[w.heap.size]? = some (.cells #[.slice va vn vc] 231 (0, 0)) ∧ W.heap[it]? = some (.cells #[.bool nb, .int .i64 x, .string tx] 191 (0, 0)))) 10 (by kernel_rfl) (HBX.out) (fun hHeld => ?_)
      refine kSK 0 hHeld ?_
      refine kSK 1 hHeld ?_
      refine kSK 2 hHeld ?_
      refine kSK 3 hHeld ?_
      refine kTK (v := ?_) 4 [] hHeld ?y5 ?_
      case y5 => (intro W hSw; have c0 := cell_row hSw.1 0; obtain ⟨⟨y0, y1, y2⟩, -⟩ := row3c hSw.2; go_simp; try with_reducible rfl)
      try refine kNK ?_
      refine kTK (v := ?_) 5 [] hHeld ?y6 ?_
      case y6 => (intro W hSw; have c0 := cell_row hSw.1 0; obtain ⟨⟨y0, y1, y2⟩, -⟩ := row3c hSw.2; go_simp; try with_reducible rfl)
      try refine kNK ?_
      refine kOK 6 fun KQ hKQ => ?_
      go_simp
      refine hKQ.out _ _ (⟨(Below.heap_alloc _ _ _ (block_lt hHeld.1)).trans hHeld.1, (Below.heap_alloc _ _ _ (block_lt hHeld.2)).trans hHeld.2⟩) ?_
      clear hHeld hKQ KQ
      intro hHeld
      try refine kNK ?_
      refine kOK 7 fun KQ hKQ => ?_
      refine step_append_own rfl (.tmp 36) (.tmp 38) 229 rfl (w.heap.size + 1) 191 i0 _ 3 32 (by kernel_rfl) hi hz0 hz1 hz2 rfl (by decide) (.slice va vn vc) L.length (rowI L) rfl HOX.out ⟨W5.heap.size, 0, none⟩ 1 1 [.bool nb, .int .i64 x, .string tx] rfl rfl (cell_three_new W5 _ _ _ _) (by simp [Value.oneCell']) (by unfold maxLen; omega) (by omega) HSZ.out ?_
      intro v' w6 hown' hgrow hat
      obtain ⟨g', cap', rfl⟩ := ownsRow_succ hown'
      go_simp
      refine hKQ.out _ _ (⟨(hgrow.block _ (block_lt hHeld.1) (fun e => HNE.out.1 e.symm)).trans hHeld.1, (hgrow.block _ (block_lt hHeld.2) (fun e => HNE.out.2 e.symm)).trans hHeld.2⟩) ?_
      clear hHeld hKQ KQ
      intro hHeld
      try refine kNK ?_
      refine kSK 8 hHeld ?_
      refine kSK 9 hHeld ?_
      try refine kNK ?_
      refine kPK 10 fun KQ hKQ => ?_
      go_simp
      have c0 := cell_row hHeld.1 0
      have f0 := frozen_row hHeld.1 0
      go_simp
      refine hKQ.out _ _ ?_
      clear hKQ KQ
      try refine kNK ?_
      refine wpAnyK_done (by kernel_rfl) ?_ _
      refine NoPanic.normal ?_
      have hne' : g' ≠ w.heap.size := fun e => by
        have := (hown'.lt g' rfl).1
        omega
      have HBF : Hid (Below w.heap.size w (w6.setCell ⟨w.heap.size, 0, none⟩ (.slice (some ⟨g', 0, none⟩) (L.length + 1) cap'))) :=
        (((HB5.out.alloc HB5.out.size _).drew).grown hgrow (Nat.le_of_succ_le HSZ.out) (fun k hk => Nat.le_of_succ_le (HOW.out.lt k hk).1)).setCell (p := ⟨w.heap.size, 0, none⟩) (Nat.le_refl _) _
      have hb6 : w6.heap[w.heap.size]? = some (.cells #[.slice va vn vc] 231 (0, 0)) := (hgrow.block _ (Nat.lt_of_succ_le HSZ.out) (fun e => HNE.out.1 e.symm)).trans ((Below.heap_alloc _ _ _ (block_lt HBX.out.1)).trans HBX.out.1)
      have HXF := Lib.hid (heap_set_same hb6 0 (.slice (some ⟨g', 0, none⟩) (L.length + 1) cap'))
      have HOF := Lib.hid (hown'.kept (grownBy_setCell' w6 w.heap.size (.slice (some ⟨g', 0, none⟩) (L.length + 1) cap')) (.inr (by simpa [Value.ownBlock] using hne')))
      clear hown' hgrow hat hb6 c0
      generalize w6.setCell ⟨w.heap.size, 0, none⟩ (.slice (some ⟨g', 0, none⟩) (L.length + 1) cap') = WF at *
      have HLL : Hid ((L ++ [(nb, x, tx)]).length = L.length + 1 ∧ rowI (L ++ [(nb, x, tx)]) = rowI L ++ [.bool nb, .int .i64 x, .string tx] ∧ sumL (L ++ [(nb, x, tx)]) = sumL L + tx.size ∧ ∀ y ∈ L ++ [(nb, x, tx)], 0 ≤ y.2.1 ∧ y.2.1 ≤ 255) :=
        ⟨by simp, rowI_snoc L _, sumL_snoc L _, fun y hy => (List.mem_append.1 hy).elim (hs3 y) (fun h => by rw [List.mem_singleton.1 h]; exact hx)⟩
      have HIF : Hid (∀ u : ByteArray, u.size + 1 ≤ rest.size ∨ u.size = rest.size → ItI s w u WF) := fun u hu => ⟨L ++ [(nb, x, tx)], _, HXF.out, by rw [HLL.out.1, HLL.out.2.1]; exact HOF.out, ⟨by rw [HLL.out.2.2.1]; omega, by rw [HLL.out.1]; omega, HLL.out.2.2.2⟩, HBF.out⟩
      by_cases hr0 : rest.size = 0
      · have hre : rest.toList.isEmpty = true := by rw [ByteArray.toList_eq, List.isEmpty_iff]; exact List.eq_nil_of_length_eq_zero hr0
        go_wp2_with fail
        go_ret2
        refine ⟨HBF.out, .inr ⟨L ++ [(nb, x, tx)], rfl, by simp, ?_, by rw [HLL.out.2.2.1]; omega, by rw [HLL.out.1]; omega, HLL.out.2.2.2⟩⟩
        refine ⟨some ⟨g', 0, none⟩, cap', by rw [HLL.out.1]; exact HXF.out, ?_, .inr ?_⟩
        · rcases HOF.out.2 with ⟨hv, _⟩ | ⟨g2, cap2, cur2, hv, _, _, hc, _⟩
          · cases hv
          · injection hv with h1 h2 h3
            rw [HLL.out.1, h3]
            exact hc
        · rcases HOF.out.2 with ⟨hv, _⟩ | ⟨g2, cap2, cur2, hv, _, hg2, hc, _, _, ht⟩
          · cases hv
          · injection hv with h1 h2 h3
            injection h1 with h1
            injection h1 with h1
            subst h1
            refine ⟨g', 0, cur2, rfl, block_lt hg2, hg2, ?_⟩
            rw [HLL.out.1, HLL.out.2.1]
            exact ht
      have hre : rest.toList.isEmpty = false := by rw [ByteArray.toList_eq]; cases hh : rest.data.toList with | nil => exact absurd (show rest.data.toList.length = rest.size from rfl) (by rw [hh]; simp; omega) | cons a l => rfl
      have hrp : 0 < rest.size := by omega
      by_cases h59 : (rest[0]'hrp).toNat = 59
      · have y1 : (((rest[0]'hrp).toNat : Int) == 59) = true := beq_iff_eq.2 (by omega)
        have hsl := run_slice_string_l (P := Tryz.prog) WF 9 rest Tryz.underlying9 .i64 1 (by decide) (by omega)
        have hsz' := extract_size rest (1 : Int).toNat rest.size (Nat.le_refl _)
        generalize rest.extract (1 : Int).toNat rest.size = rx at hsl hsz'
        have hrx : rx.size + 1 = rest.size := by rw [hsz']; show rest.size - 1 + 1 = _; omega
        go_wp2_with fail
        exact ⟨⟨rx, rfl, HIF.out rx (.inl (by omega))⟩, by simp only [strOf]; omega⟩
      · have y1 : (((rest[0]'hrp).toNat : Int) == 59) = false := beq_eq_false_iff_ne.2 (by omega)
        go_wp2_with fail
        all_goals go_ret2
        all_goals exact ⟨HBF.out, .inl rfl⟩)
end Go.Proofs.YtmgeghoalmonoaaGreatDoor
