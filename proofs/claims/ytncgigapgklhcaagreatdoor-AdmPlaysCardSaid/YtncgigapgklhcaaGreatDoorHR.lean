import Derived.Test.YtncgigapgklhcaaGreatDoorHF
import Derived.Test.YtncgigapgklhcaaGreatDoorHC
import Derived.Test.YtncgigapgklhcaaGreatDoorHD

set_option maxRecDepth 100000
set_option maxHeartbeats 16000000
namespace Go.Proofs.YtncgigapgklhcaaGreatDoor
open Go.RowKit
set_option linter.unusedSimpArgs false
set_option linter.unusedVariables false
/- A queue in memory: a box and a ring of twenty bytes. -/
section
def bytesV (l : List UInt8) : List Value := l.map fun c => Value.int .u8 c.toNat
structure QueAt (W : World) (qp lb fr : Nat) (q : List UInt8) (over : Bool) : Prop where
 box : W.heap[qp]? = some (.cells #[.slice (some ⟨lb, 0, none⟩) 20 20, .int .i64 fr, .int .i64 q.length, .bool over] 84 (0, 0))
 row : ∃ c, W.heap[lb]? = some (.cells c 5 (0, 0)) ∧ c.size = 20 ∧ ∀ i, i < q.length → c[(fr + i) % 20]? = some (.int .u8 (q[i]?.getD 0).toNat)
 len : q.length ≤ 20
 fr_lt : fr < 20
theorem QueAt.lt {W : World} {qp lb fr : Nat} {q : List UInt8} {over : Bool} (h : QueAt W qp lb fr q over) : qp < W.heap.size ∧ lb < W.heap.size := by
 obtain ⟨c, hc, _⟩ := h.row
 exact ⟨block_lt h.box, block_lt hc⟩
theorem QueAt.ne {W : World} {qp lb fr : Nat} {q : List UInt8} {over : Bool} (h : QueAt W qp lb fr q over) : qp ≠ lb := by
 rintro rfl
 obtain ⟨c, hc, hn, _⟩ := h.row
 rw [h.box] at hc
 injection hc with hc
 injection hc with hc
 subst hc
 simp at hn
theorem QueAt.of_blocks {W W' : World} {qp lb fr : Nat} {q : List UInt8} {over : Bool} (h : QueAt W qp lb fr q over) (h1 : W'.heap[qp]? = W.heap[qp]?) (h2 : W'.heap[lb]? = W.heap[lb]?) : QueAt W' qp lb fr q over := by
 obtain ⟨c, hc, r⟩ := h.row
 exact ⟨h1.trans h.box, ⟨c, h2.trans hc, r⟩, h.len, h.fr_lt⟩
theorem QueAt.below {W W' : World} {qp lb fr : Nat} {q : List UInt8} {over : Bool} (h : QueAt W qp lb fr q over) (hb : Below W.heap.size W W') : QueAt W' qp lb fr q over :=
 h.of_blocks (hb.block _ h.lt.1) (hb.block _ h.lt.2)
def QueTo (w w' : World) (qp lb : Nat) (q : List UInt8) (over : Bool) : Prop := (∃ fr, QueAt w' qp lb fr q over) ∧ Keeps (fun k => k = qp ∨ k = lb) w w'
theorem QueTo.after {w w1 w2 : World} {qp lb : Nat} {q : List UInt8} {over : Bool} (hb : Below w.heap.size w w1) (h : QueTo w1 w2 qp lb q over) : QueTo w w2 qp lb q over :=
 ⟨h.1, (Keeps.of_below hb).trans h.2 fun k hk => .inl hk⟩
theorem QueTo.later {w w1 w2 : World} {qp lb : Nat} {q : List UInt8} {over : Bool} (h : QueTo w w1 qp lb q over) (hb : Below w1.heap.size w1 w2) : QueTo w w2 qp lb q over := by
 obtain ⟨⟨fr, h1⟩, h2⟩ := h
 exact ⟨⟨fr, h1.below hb⟩, h2.trans (Keeps.of_below hb : Keeps (fun k => k = qp ∨ k = lb) w1 w2) fun k hk => .inl hk⟩
end
section
attribute [local go_sem] alloc_drewN setCell_drewN World.cell?_alloc_some
def tab0 : Array Value := Array.replicate 256 (.int .i32 0)
theorem run_build_tab (W : World) : (Instr.build 184 #[]).run Tryz.prog W = .ok (.agg tab0) W := by kernel_rfl
theorem run_box_tab (W : World) (c : Array Value) : (Instr.box 184 (.agg c)).run Tryz.prog W = .ok (.pointer (some ⟨W.heap.size, 0, none⟩)) (W.alloc (.cells c 184)) := rfl
theorem run_half_from (W : World) (g : Nat) : (Instr.sliceAt 184 (.pointer (some ⟨g, 0, none⟩)) (some (.int .i64 128)) none none).run Tryz.prog W = .ok (.slice (some ⟨g, 128, none⟩) 128 128) W := by kernel_rfl
theorem run_half_to (W : World) (g : Nat) : (Instr.sliceAt 184 (.pointer (some ⟨g, 0, none⟩)) none (some (.int .i64 128)) none).run Tryz.prog W = .ok (.slice (some ⟨g, 0, none⟩) 128 256) W := by kernel_rfl
theorem addr_add0 (g j : Nat) : (⟨g, 0, none⟩ : Addr).add j = ⟨g, j, none⟩ := by
 unfold Addr.add
 split
 · rename_i h; rw [h]
 · simp
theorem runeSize : (Tryz.prog.info? 21).map (·.size) = some 1 := by kernel_rfl
attribute [local go_sem 3000] run_build_tab run_box_tab run_half_from run_half_to
def asciiG (i : Nat) : Int := if 32 ≤ i ∧ i ≤ 126 then (i : Int) else 65533
def TabC (W : World) (g : Nat) (f : Nat → Int) : Prop := RowC W g 184 256 256 (fun j => .int .i32 (f j))
theorem TabC.set {W : World} {g : Nat} {f : Nat → Int} (h : TabC W g f) (i : Nat) (x : Int) : TabC (W.setCell ⟨g, i, none⟩ (.int .i32 x)) g (fun j => if j = i then x else f j) :=
 (RowC.set h i (.int .i32 x)).congr fun j _ => by by_cases e : j = i <;> simp [e]
theorem TabC.congr {W : World} {g : Nat} {f f' : Nat → Int} (h : TabC W g f) (e : ∀ i, i < 256 → f i = f' i) : TabC W g f' := RowC.congr h fun i hi => by rw [e i hi]
theorem tab_new (w : World) : TabC (w.alloc (.cells tab0 184)) w.heap.size (fun _ => 0) :=
 ⟨tab0, heap_alloc_new _ _, by simp [tab0], Nat.le_refl _, fun i hi => by simp [tab0, hi]⟩
theorem ascii_ok (w : World) : Calls Tryz.prog 132 #[] w fun e w' => e = .returned (.pointer (some ⟨w.heap.size, 0, none⟩)) ∧ TabC w' w.heap.size asciiG ∧ Below w.heap.size w w' := by
 go_enter Tryz.func132, Tryz.ntmps132
 go_wp2_with fail
 go_loopw [5] (fun i wr => ∃ k : Nat, k ≤ 256 ∧ i = .int .i64 k ∧ TabC wr w.heap.size (fun j => if j < k then asciiG j else 0) ∧ Below w.heap.size w wr) (fun i _ => 256 - (intOf i).toNat)
 case atStart => exact ⟨0, by decide, rfl, (tab_new w).congr fun i _ => by simp, below1 _ _⟩
 case round =>
  obtain ⟨k, hk, rfl, hT, hb⟩ := hrel
  by_cases hlt : k < 256
  · have hz : (k : Int) < 256 := by omega
    have hc := RowC.cell hT hlt
    have hfz := RowC.frozen hT k
    have HT := Lib.hid hT
    have HB := Lib.hid hb
    clear hT hb
    have hw0 : IntKind.i32.wrap (k : Int) = (k : Int) := by simp [IntKind.wrap, IntKind.bits, IntKind.signed]; omega
    have hstep : ∀ x, x = asciiG k → ∀ W, TabC W w.heap.size (fun j => if j = k then x else if j < k then asciiG j else 0) → TabC W w.heap.size (fun j => if j < k + 1 then asciiG j else 0) := fun x hx W h => h.congr fun i hi => by
     by_cases e : i = k
     · subst e; simp [hx]
     · by_cases e2 : i < k
       · simp [e, e2, show i < k + 1 by omega]
       · simp [e, e2, show ¬ i < k + 1 by omega]
    by_cases h1 : 32 ≤ k
    · by_cases h2 : k ≤ 126
      · have z1 : (32 : Int) ≤ (k : Int) := by omega
        have z2 : (k : Int) ≤ 126 := by omega
        go_wp2_with fail
        refine ⟨⟨k + 1, by omega, by go_num, hstep (k : Int) (by unfold asciiG; rw [if_pos ⟨h1, h2⟩]) _ (((HT.out.set k 65533).set k (k : Int)).congr fun i hi => by by_cases e : i = k <;> simp [e]), (HB.out.setCell (p := ⟨w.heap.size, k, none⟩) (Nat.le_refl _) _).setCell (p := ⟨w.heap.size, k, none⟩) (Nat.le_refl _) _⟩, by simp [intOf]; omega⟩
      · have z1 : (32 : Int) ≤ (k : Int) := by omega
        have z2 : ¬ (k : Int) ≤ 126 := by omega
        go_wp2_with fail
        refine ⟨⟨k + 1, by omega, by go_num, hstep 65533 (by unfold asciiG; rw [if_neg (by omega)]) _ (HT.out.set k 65533), HB.out.setCell (p := ⟨w.heap.size, k, none⟩) (Nat.le_refl _) _⟩, by simp [intOf]; omega⟩
    · have z1 : ¬ (32 : Int) ≤ (k : Int) := by omega
      go_wp2_with fail
      refine ⟨⟨k + 1, by omega, by go_num, hstep 65533 (by unfold asciiG; rw [if_neg (by omega)]) _ (HT.out.set k 65533), HB.out.setCell (p := ⟨w.heap.size, k, none⟩) (Nat.le_refl _) _⟩, by simp [intOf]; omega⟩
  · obtain rfl : k = 256 := by omega
    have HT := Lib.hid hT
    have HB := Lib.hid hb
    clear hT hb
    go_wp2_with fail
    go_ret
    exact ⟨rfl, HT.out.congr fun i hi => by simp [hi], HB.out⟩
def capG (n i : Nat) : Int := if 97 ≤ i ∧ i < n then (i : Int) - 97 + 65 else asciiG i
theorem of_fold (w : World) : Calls Tryz.prog 108 #[.int .i64 5] w fun e w' => e = .returned (.pointer (some ⟨w.heap.size, 0, none⟩)) ∧ RowC w' w.heap.size 184 256 128 (fun j => .int .i32 (capG 123 j)) ∧ Below w.heap.size w w' := by
 have HA := Lib.hid (ascii_ok w)
 go_enter Tryz.func108, Tryz.ntmps108
 go_wp2_with (go_at_call 132; refine HA.out.mono ?_; rintro e w1 ⟨rfl, ht, hb⟩; have HT1 := Lib.hid ht; have HB1 := Lib.hid hb; clear ht hb)
 go_loopw [4] (fun i wr => ∃ k : Nat, 97 ≤ k ∧ k ≤ 123 ∧ i = .int .i32 k ∧ TabC wr w.heap.size (capG k) ∧ Below w.heap.size w wr) (fun i _ => 123 - (intOf i).toNat)
 case atStart => exact ⟨97, by decide, by decide, rfl, HT1.out.congr fun i _ => by unfold capG; rw [if_neg (by omega)], HB1.out⟩
 case round =>
  obtain ⟨k, hk0, hk, rfl, hT, hb⟩ := hrel
  by_cases hlt : k < 123
  · have hz : (k : Int) ≤ 122 := by omega
    have hc := RowC.cell hT (show k < 256 by omega)
    have hfz := RowC.frozen hT k
    have HT := Lib.hid hT
    have HB := Lib.hid hb
    clear hT hb
    have hw0 : IntKind.i32.wrap ((k : Int) - 97) = (k : Int) - 97 := by simp [IntKind.wrap, IntKind.bits, IntKind.signed]; omega
    have hw1 : IntKind.i32.wrap ((k : Int) - 97 + 65) = (k : Int) - 97 + 65 := by simp [IntKind.wrap, IntKind.bits, IntKind.signed]; omega
    have hw2 : IntKind.i32.wrap ((k : Int) + 1) = (k : Int) + 1 := by simp [IntKind.wrap, IntKind.bits, IntKind.signed]; omega
    go_wp2_with fail
    refine ⟨⟨k + 1, by omega, by omega, by go_num, (HT.out.set k ((k : Int) - 97 + 65)).congr fun i hi => ?_, HB.out.setCell (p := ⟨w.heap.size, k, none⟩) (Nat.le_refl _) _⟩, by simp [intOf]; omega⟩
    unfold capG
    by_cases e : i = k
    · subst e
      rw [if_pos rfl, if_pos (by omega)]
    · rw [if_neg e]
      by_cases e2 : 97 ≤ i ∧ i < k
      · rw [if_pos e2, if_pos (by omega)]
      · rw [if_neg e2, if_neg (by omega)]
  · obtain rfl : k = 123 := by omega
    have HT := Lib.hid hT
    have HB := Lib.hid hb
    clear hT hb
    go_wp2_with fail
    refine wp_region_noPanic ?_
    refine wp_region_k (S := fun W' : World => W' = wr.drew) 6 (by kernel_rfl) (rfl) (fun hHeld => ?_)
    refine kSK 0 hHeld ?_
    refine kSK 1 hHeld ?_
    refine kSK 2 hHeld ?_
    refine kSK 3 hHeld ?_
    refine kSK 4 hHeld ?_
    try refine kNK ?_
    refine kSK 5 hHeld ?_
    try refine kNK ?_
    refine kPK 6 fun KQ hKQ => ?_
    rw [if_pos (by rfl)]
    refine wp_copy_rowC (.tmp 47) (.tmp 50) 182 182 rfl 21 1 Tryz.underlying182 runeSize w.heap.size 128 128 128 ⟨w.heap.size, 0, none⟩ 128 256 rfl rfl 128 rfl 184 256 256 (fun j => .int .i32 (capG 123 j)) HT.out ((List.range 128).map fun j => Value.int .i32 (capG 123 j)) (by simp) (fun j v hj => ?_) (fun v hv => ?_) (by decide) (by simp) 128 (.inl (by decide)) (by decide) (fun j => .int .i32 (capG 123 j)) (fun i hi => ?_) ?_
    · obtain ⟨h1, h2⟩ := List.getElem?_eq_some_iff.1 hj
      have h3 : j < 128 := by simpa using h1
      rw [← h2]
      have := RowC.cell (W := wr.drew) HT.out (show j < 256 by omega)
      rw [addr_add0]
      simpa using this
    · obtain ⟨j, _, rfl⟩ := List.mem_map.1 hv
      rfl
    · rw [if_neg (by omega)]
    intro w3 hr3 ho3 hb3 hz3
    have HR3 := Lib.hid hr3
    have HB3 : Hid (Below w.heap.size w w3) := HB.out.drew.trans hb3
    clear hr3 ho3
    refine hKQ.out _ _ ?_
    clear hKQ KQ
    try refine kNK ?_
    refine wpAnyK_done (by kernel_rfl) ?_ _
    refine NoPanic.normal ?_
    go_wp2_with fail
    go_ret
    exact ⟨rfl, HR3.out, HB3.out⟩
theorem capG_fold (b : Nat) (h : 32 ≤ b ∧ b ≤ 126) : capG 123 b = if 97 ≤ b ∧ b ≤ 122 then (b : Int) - 32 else (b : Int) := by
 unfold capG asciiG
 split <;> split <;> omega
theorem glyph_fold (b : Nat) (hb : 32 ≤ b ∧ b ≤ 126) (w : World) : Calls Tryz.prog 83 #[.int .i64 5, .int .u8 b] w fun e w' => e = .returned (.int .i32 (if 97 ≤ b ∧ b ≤ 122 then (b : Int) - 32 else (b : Int))) ∧ Below w.heap.size w w' := by
 have HO := Lib.hid (of_fold w)
 have hb2 : (b : Int) < 256 := by omega
 have hb0 : (0 : Int) ≤ (b : Int) := by omega
 go_enter Tryz.func83, Tryz.ntmps83
 go_wp2_with (go_at_call 108; refine HO.out.mono ?_; rintro e w1 ⟨rfl, ht, hb1⟩; have hcc := RowC.cell ht (show b < 128 by omega); rw [capG_fold b hb] at hcc)
 all_goals (
  go_ret
  exact ⟨by simp_all, hb1⟩)
end
section
attribute [local go_sem] alloc_drewN setCell_drewN World.cell?_alloc_some
theorem infoByte : (Tryz.prog.info? 5).map (fun i => (i.zero, i.size, i.bytes)) = some (some (.int .u8 0), 1, 1) := by kernel_rfl
theorem make_bytes : ∀ W : World, Sem.run Tryz.prog (Instr.makeSlice 34 (.int .i64 20) (.int .i64 20)) W = .ok (.slice (some ⟨W.heap.size, 0, none⟩) 20 20) (W.alloc (.cells (madeCells #[.int .u8 0] 20) 5)) := by
 obtain ⟨i, hi, hz, hs, hb⟩ := info_three infoByte
 intro W
 have := run_make (P := Tryz.prog) W 34 5 i _ Tryz.underlying34 hi hz .i64 .i64 20 20 (by omega) (by omega) (by rw [hb]; omega) (by omega)
 rw [hs] at this
 simpa [Value.cells] using this
theorem que_new (w : World) : Calls Tryz.prog 31 #[.int .i64 20] w fun e w' => e = .returned (.tuple #[.pointer (some ⟨w.heap.size + 1, 0, none⟩), .int .i64 0]) ∧ QueAt w' (w.heap.size + 1) w.heap.size 0 [] false ∧ Below w.heap.size w w' := by
 have hmk := make_bytes
 go_enter Tryz.func31, Tryz.ntmps31
 go_wp2_with fail
 go_ret2
 refine ⟨rfl, ⟨?_, ⟨madeCells #[.int .u8 0] 20, (Below.heap_alloc (w.alloc (.cells (madeCells #[.int .u8 0] 20) 5)) _ w.heap.size (by simp)).trans (heap_alloc_new w _), by rw [size_madeCells], fun i hi => absurd hi (Nat.not_lt_zero _)⟩, by decide, by decide⟩, Grows.below (((Grows.refl w).alloc _).alloc _)⟩
 have := heap_alloc_new (w.alloc (.cells (madeCells #[.int .u8 0] 20) 5)) (.cells #[.slice (some ⟨w.heap.size, 0, none⟩) 20 20, .int .i64 0, .int .i64 0, .bool false] 84)
 rwa [World.size_alloc] at this
theorem row4q {W : World} {qp lb fr : Nat} {q : List UInt8} {over : Bool} (h : QueAt W qp lb fr q over) : W.cell? ⟨qp, 0, none⟩ = some (.slice (some ⟨lb, 0, none⟩) 20 20) ∧ W.cell? ⟨qp, 1, none⟩ = some (.int .i64 fr) ∧ W.cell? ⟨qp, 2, none⟩ = some (.int .i64 q.length) ∧ W.cell? ⟨qp, 3, none⟩ = some (.bool over) ∧ W.frozen? ⟨qp, 1, none⟩ = false ∧ W.frozen? ⟨qp, 2, none⟩ = false ∧ W.frozen? ⟨qp, 3, none⟩ = false :=
 ⟨cell_row h.box 0, cell_row h.box 1, cell_row h.box 2, cell_row h.box 3, frozen_row h.box 1, frozen_row h.box 2, frozen_row h.box 3⟩
theorem ring_put (qp lb fr : Nat) (q : List UInt8) (over : Bool) (x : UInt8) (w : World) (h : QueAt w qp lb fr q over) (hl : q.length < 20) : Calls Tryz.prog 102 #[.pointer (some ⟨qp, 0, none⟩), .int .u8 x.toNat] w fun e w' => e = .returned (.tuple #[]) ∧ QueTo w w' qp lb (q ++ [x]) over := by
 have H := Lib.hid h
 obtain ⟨c, hc, hn, hcc⟩ := h.row
 have hfr := h.fr_lt
 obtain ⟨c0, c1, c2, c3, f1, f2, f3⟩ := row4q h
 have hfz := frozen_row hc ((fr + q.length) % 20)
 have hlt : (fr + q.length) % 20 < 20 := Nat.mod_lt _ (by decide)
 have hcl : w.cell? ⟨lb, (fr + q.length) % 20, none⟩ = some (c[(fr + q.length) % 20]?.getD undef) := by
  rw [cell_row hc, Array.getElem?_eq_getElem (by omega)]
  rfl
 have hw0 : ((fr : Int) + (q.length : Int)).tmod 20 = (((fr + q.length) % 20 : Nat) : Int) := by rw [← Int.natCast_add]; exact (Int.ofNat_tmod _ 20).symm
 have hw2 : IntKind.i64.wrap ((fr : Int) + (q.length : Int)) = (fr : Int) + (q.length : Int) := wrap_in (by omega) (by omega)
 have hw1 : IntKind.i64.wrap ((q.length : Int) + 1) = (((q ++ [x]).length : Nat) : Int) := by rw [wrap_in (by omega) (by omega), List.length_append]; rfl
 have hnew : ∀ i, i < (q ++ [x]).length → (c.setIfInBounds ((fr + q.length) % 20) (.int .u8 x.toNat))[(fr + i) % 20]? = some (.int .u8 ((q ++ [x])[i]?.getD 0).toNat) := fun i hi => by
  rw [List.length_append] at hi
  have hi : i < q.length + 1 := hi
  rw [Array.getElem?_setIfInBounds]
  by_cases e : i = q.length
  · subst e
    rw [if_pos rfl, if_pos (by omega)]
    simp
  · rw [if_neg (by omega), hcc i (by omega), List.getElem?_append_left (by omega)]
 generalize hmm : (fr + q.length) % 20 = m at *
 have hmi : (m : Int) < 20 := by omega
 have hm0 : (0 : Int) ≤ (m : Int) := by omega
 have HNEW := Lib.hid hnew
 have HC := Lib.hid hc
 have hqn := h.ne
 clear h hnew hcc hc hmm
 go_enter Tryz.func102, Tryz.ntmps102
 go_upto_region 0 with fail
 refine wp_region_noPanic ?_
 refine wp_region_k (S := fun W : World => W = w.drew) 21 (by kernel_rfl) (rfl) (fun hHeld => ?_)
 refine kSK 0 hHeld ?_
 refine kSK 1 hHeld ?_
 refine kSK 2 hHeld ?_
 refine kTK (v := ?_) 3 [] hHeld ?y4 ?_
 case y4 => (intro W hSw; subst hSw; go_simp; try with_reducible rfl)
 refine kSK 4 hHeld ?_
 try refine kNK ?_
 refine kSK 5 hHeld ?_
 refine kSK 6 hHeld ?_
 refine kTK (v := ?_) 7 [] hHeld ?y8 ?_
 case y8 => (intro W hSw; subst hSw; go_simp; try with_reducible rfl)
 refine kSK 8 hHeld ?_
 refine kSK 9 hHeld ?_
 try refine kNK ?_
 refine kSK 10 hHeld ?_
 refine kTK (v := ?_) 11 [] hHeld ?y12 ?_
 case y12 => (intro W hSw; subst hSw; go_simp; try with_reducible rfl)
 refine kSK 12 hHeld ?_
 refine kSK 13 hHeld ?_
 refine kSK 14 hHeld ?_
 try refine kNK ?_
 refine kSK 15 hHeld ?_
 refine kTK (v := ?_) 16 [] hHeld ?y17 ?_
 case y17 => (intro W hSw; subst hSw; go_simp; try with_reducible rfl)
 refine kSK 17 hHeld ?_
 refine kSK 18 hHeld ?_
 refine kSK 19 hHeld ?_
 try refine kNK ?_
 refine kSK 20 hHeld ?_
 try refine kNK ?_
 refine kPK 21 fun KQ hKQ => ?_
 go_simp
 refine hKQ.out _ _ ?_
 clear hKQ KQ
 try refine kNK ?_
 refine wpAnyK_done (by kernel_rfl) ?_ _
 refine NoPanic.normal ?_
 go_wp2_with fail
 go_end0
 refine ⟨rfl, ⟨⟨fr, ⟨?_, ⟨_, ?_, by simpa using hn, HNEW.out⟩, by rw [List.length_append]; exact hl, hfr⟩⟩, ?_⟩⟩
 · have h1 := heap_set_same (W := w.setCell ⟨lb, m, none⟩ (.int .u8 x.toNat)) ((heap_setCell_other _ _ _ _ hqn).trans H.out.box) 2 (.int .i64 ((q.length : Int) + 1))
   rw [show ((q.length : Int) + 1) = (((q ++ [x]).length : Nat) : Int) by rw [List.length_append]; rfl] at h1 ⊢
   exact h1
 · exact (heap_setCell_other _ _ _ _ hqn.symm).trans (heap_set_same HC.out m _)
 · exact (((Keeps.refl _ w).setCell' (p := ⟨lb, m, none⟩) (.inr rfl) _).setCell' (p := ⟨qp, 2, none⟩) (.inl rfl) _).trans (Keeps.of_below (Below.refl _ _).drew) fun k hk => .inl hk
def pushQ (q s : List UInt8) : List UInt8 := if 20 < q.length + s.length then q else q ++ s
def pushO (q s : List UInt8) (over : Bool) : Bool := if 20 < q.length + s.length then true else over
theorem QueTo.trans {w w1 w2 : World} {qp lb : Nat} {q1 q2 : List UInt8} {o1 o2 : Bool} (h : QueTo w w1 qp lb q1 o1) (k : QueTo w1 w2 qp lb q2 o2) : QueTo w w2 qp lb q2 o2 := ⟨k.1, h.2.trans k.2 fun k hk => .inl hk⟩
theorem QueTo.refl {w : World} {qp lb fr : Nat} {q : List UInt8} {o : Bool} (h : QueAt w qp lb fr q o) : QueTo w w qp lb q o := ⟨⟨fr, h⟩, Keeps.refl _ w⟩
theorem que_push (qp lb fr : Nat) (q : List UInt8) (over : Bool) (b : Nat) (s : List UInt8) (w : World) (h : QueAt w qp lb fr q over) (hb : w.heap[b]? = some (.cells #[.string ⟨s.toArray⟩] 9 (0, 0))) (h1 : b ≠ qp) (h2 : b ≠ lb) (hs : s.length ≤ 100) :
 Calls Tryz.prog 77 #[.pointer (some ⟨qp, 0, none⟩), .slice (some ⟨b, 0, none⟩) 1 1] w fun e w' => e = .returned (.bool (decide (q.length + s.length ≤ 20))) ∧ QueTo w w' qp lb (pushQ q s) (pushO q s over) := by
 have H := Lib.hid h
 have hql := h.len
 have HB := Lib.hid hb
 obtain ⟨c0, c1, c2, c3, f1, f2, f3⟩ := row4q h
 have hbc : w.cell? ⟨b, 0, none⟩ = some (.string ⟨s.toArray⟩) := cell_row hb 0
 have hw1 : IntKind.i64.wrap ((q.length : Int) + (s.length : Int)) = (q.length : Int) + (s.length : Int) := wrap_in (by omega) (by omega)
 clear h hb
 go_enter Tryz.func77, Tryz.ntmps77
 go_wp2_with fail
 go_loopw [5, 20] (fun n i wr => wr = w ∧ ((i = .int .i64 0 ∧ n = .int .i64 q.length) ∨ (i = .int .i64 1 ∧ n = .int .i64 ((q.length : Int) + (s.length : Int))))) (fun _ i _ => 1 - (intOf i).toNat)
 case atStart => exact ⟨rfl, .inl ⟨rfl, rfl⟩⟩
 case round =>
  obtain ⟨rfl, ⟨rfl, rfl⟩ | ⟨rfl, rfl⟩⟩ := hrel
  · go_wp2_with fail
    exact ⟨⟨trivial, .inr ⟨rfl, rfl⟩⟩, by simp [intOf]⟩
  · by_cases hfull : 20 < q.length + s.length
    · have hz : (20 : Int) < (q.length : Int) + (s.length : Int) := by omega
      go_wp2_with fail
      go_ret
      refine ⟨by simp only [show decide (q.length + s.length ≤ 20) = false by simp; omega]; rfl, ?_⟩
      unfold pushQ pushO
      rw [if_pos hfull, if_pos hfull]
      exact ⟨⟨fr, heap_set_same H.out.box 3 (.bool true), by obtain ⟨c, hc, r⟩ := H.out.row; exact ⟨c, (heap_setCell_other _ _ _ _ H.out.ne.symm).trans hc, r⟩, H.out.len, H.out.fr_lt⟩, (Keeps.refl _ wr).setCell' (p := ⟨qp, 3, none⟩) (.inl rfl) _⟩
    · have hz : ¬ (20 : Int) < (q.length : Int) + (s.length : Int) := by omega
      go_wp2_with fail
      go_loopw [42] (fun i W2 => (i = .int .i64 0 ∧ W2 = wr) ∨ (i = .int .i64 1 ∧ QueTo wr W2 qp lb (q ++ s) over)) (fun i _ => 1 - (intOf i).toNat)
      case atStart => exact .inl ⟨rfl, rfl⟩
      case round =>
       rcases hrel with ⟨rfl, rfl⟩ | ⟨rfl, hT⟩
       · go_wp2_with fail
         go_loopw [48] (fun i W3 => ∃ k : Nat, k ≤ s.length ∧ i = .int .i64 k ∧ QueTo wr W3 qp lb (q ++ s.take k) over) (fun i _ => s.length - (intOf i).toNat)
         case atStart => exact ⟨0, Nat.zero_le _, rfl, by simpa using QueTo.refl H.out⟩
         case round =>
          obtain ⟨k, hk, rfl, hT⟩ := hrel
          by_cases hlt : k < s.length
          · have hzk : (k : Int) < (s.length : Int) := by omega
            have hzn : k ≠ s.length := by omega
            have hz0 : (0 : Int) ≤ (k : Int) := by omega
            have hPUT : ∀ W, W = wr.drew → Calls Tryz.prog 102 #[.pointer (some ⟨qp, 0, none⟩), .int .u8 (s[k]?.getD 0).toNat] W fun e w' => e = .returned (.tuple #[]) ∧ QueTo W w' qp lb (q ++ s.take k ++ [s[k]?.getD 0]) over := by
             rintro W rfl
             obtain ⟨fr', hA⟩ := hT.1
             exact ring_put qp lb fr' _ over _ _ (hA.below (Below.refl _ _).drew) (by rw [List.length_append, List.length_take]; omega)
            have HPUT := Lib.hid (hPUT _ rfl)
            have HGX : Hid ((⟨s.toArray⟩ : ByteArray)[k]'(by show k < s.toArray.size; simpa using hlt) = s[k]?.getD 0) := by
             show s.toArray[k]'(by simpa using hlt) = _
             simp [List.getElem?_eq_getElem hlt]
            have HT := Lib.hid hT
            clear hT hPUT
            go_upto_region 18 with fail
            refine wp_region_noPanic ?_
            refine wp_region_k (S := fun W : World => True) 6 (by kernel_rfl) (trivial) (fun hHeld => ?_)
            refine kSK 0 hHeld ?_
            refine kSK 1 hHeld ?_
            refine kSK 2 hHeld ?_
            refine kSK 3 hHeld ?_
            refine kSK 4 hHeld ?_
            try refine kNK ?_
            refine kTK (v := ?_) 5 [] hHeld ?y6 ?_
            case y6 => (intro W hSw; go_simp; try with_reducible rfl)
            try refine kNK ?_
            refine kPK 6 fun KQ hKQ => ?_
            go_simp
            go_at_call 102
            rw [HGX.out]
            refine HPUT.out.mono ?_
            rintro e w3 ⟨rfl, hq3⟩
            have HQ3 := Lib.hid hq3
            clear hq3
            go_wp2_with fail
            refine hKQ.out _ _ ?_
            clear hKQ KQ
            try refine kNK ?_
            refine wpAnyK_done (by kernel_rfl) ?_ _
            refine NoPanic.normal ?_
            go_wp2_with fail
            refine ⟨⟨k + 1, by omega, by go_num, ?_⟩, by simp [intOf]; omega⟩
            have hq := HT.out.trans (QueTo.after (Below.refl _ _).drew HQ3.out)
            rw [List.append_assoc] at hq
            have e : s.take (k + 1) = s.take k ++ [s[k]?.getD 0] := by
             rw [List.take_add_one, List.getElem?_eq_getElem hlt]
             rfl
            rw [e]
            exact hq
          · obtain rfl : k = s.length := by omega
            have HT := Lib.hid hT
            clear hT
            go_wp2_with fail
            refine ⟨.inr ⟨rfl, ?_⟩, by simp [intOf]⟩
            simpa using HT.out
       · have HT := Lib.hid hT
         clear hT
         go_wp2_with fail
         go_ret
         have hP : pushQ q s = q ++ s ∧ pushO q s over = over ∧ decide (q.length + s.length ≤ 20) = true := by
          unfold pushQ pushO
          rw [if_neg hfull, if_neg hfull]
          exact ⟨rfl, rfl, by simp; omega⟩
         rw [hP.1, hP.2.1, hP.2.2]
         exact ⟨rfl, HT.out⟩
end
end Go.Proofs.YtncgigapgklhcaaGreatDoor
