import Derived.Test.YtmgeghoalmonoaaGreatDoorRF
import Derived.Test.YtmgeghoalmonoaaGreatDoorRC

set_option maxRecDepth 100000
set_option maxHeartbeats 16000000
namespace Go.Proofs.YtmgeghoalmonoaaGreatDoor
open Go.RowKit
set_option linter.unusedSimpArgs false
set_option linter.unusedVariables false
/- A queue in memory: a box and a ring of M bytes. -/
section
def bytesV (l : List UInt8) : List Value := l.map fun c => Value.int .u8 c.toNat
structure QueAt (W : World) (qp lb fr M : Nat) (q : List UInt8) (over : Bool) : Prop where
 box : W.heap[qp]? = some (.cells #[.slice (some ⟨lb, 0, none⟩) M M, .int .i64 fr, .int .i64 q.length, .bool over] 84 (0, 0))
 row : ∃ c, W.heap[lb]? = some (.cells c 5 (0, 0)) ∧ c.size = M ∧ ∀ i, i < q.length → c[(fr + i) % M]? = some (.int .u8 (q[i]?.getD 0).toNat)
 len : q.length ≤ M
 fr_lt : fr < M
 most : M ≤ 4096
theorem QueAt.lt {W : World} {qp lb fr M : Nat} {q : List UInt8} {over : Bool} (h : QueAt W qp lb fr M q over) : qp < W.heap.size ∧ lb < W.heap.size := by
 obtain ⟨c, hc, _⟩ := h.row
 exact ⟨block_lt h.box, block_lt hc⟩
theorem QueAt.ne {W : World} {qp lb fr M : Nat} {q : List UInt8} {over : Bool} (h : QueAt W qp lb fr M q over) : qp ≠ lb := by
 rintro rfl
 obtain ⟨c, hc, hn, _⟩ := h.row
 rw [h.box] at hc
 injection hc with hc
 injection hc with _ h2
 exact absurd h2 (by decide)
theorem QueAt.of_blocks {W W' : World} {qp lb fr M : Nat} {q : List UInt8} {over : Bool} (h : QueAt W qp lb fr M q over) (h1 : W'.heap[qp]? = W.heap[qp]?) (h2 : W'.heap[lb]? = W.heap[lb]?) : QueAt W' qp lb fr M q over := by
 obtain ⟨c, hc, r⟩ := h.row
 exact ⟨h1.trans h.box, ⟨c, h2.trans hc, r⟩, h.len, h.fr_lt, h.most⟩
theorem QueAt.below {W W' : World} {qp lb fr M : Nat} {q : List UInt8} {over : Bool} (h : QueAt W qp lb fr M q over) (hb : Below W.heap.size W W') : QueAt W' qp lb fr M q over :=
 h.of_blocks (hb.block _ h.lt.1) (hb.block _ h.lt.2)
def QueTo (w w' : World) (qp lb M : Nat) (q : List UInt8) (over : Bool) : Prop := (∃ fr, QueAt w' qp lb fr M q over) ∧ Keeps (fun k => k = qp ∨ k = lb) w w'
theorem QueTo.after {w w1 w2 : World} {qp lb M : Nat} {q : List UInt8} {over : Bool} (hb : Below w.heap.size w w1) (h : QueTo w1 w2 qp lb M q over) : QueTo w w2 qp lb M q over :=
 ⟨h.1, (Keeps.of_below hb).trans h.2 fun k hk => .inl hk⟩
theorem QueTo.later {w w1 w2 : World} {qp lb M : Nat} {q : List UInt8} {over : Bool} (h : QueTo w w1 qp lb M q over) (hb : Below w1.heap.size w1 w2) : QueTo w w2 qp lb M q over := by
 obtain ⟨⟨fr, h1⟩, h2⟩ := h
 exact ⟨⟨fr, h1.below hb⟩, h2.trans (Keeps.of_below hb : Keeps (fun k => k = qp ∨ k = lb) w1 w2) fun k hk => .inl hk⟩
end
section
attribute [local go_sem] alloc_drewN setCell_drewN World.cell?_alloc_some
theorem infoByte : (Tryz.prog.info? 5).map (fun i => (i.zero, i.size, i.bytes)) = some (some (.int .u8 0), 1, 1) := by kernel_rfl
theorem make_bytes (M : Nat) (hM : M ≤ 4096) : ∀ W : World, Sem.run Tryz.prog (Instr.makeSlice 80 (.int .i64 M) (.int .i64 M)) W = .ok (.slice (some ⟨W.heap.size, 0, none⟩) M M) (W.alloc (.cells (madeCells #[.int .u8 0] M) 5)) := by
 obtain ⟨i, hi, hz, hs, hb⟩ := info_three infoByte
 intro W
 have := run_make (P := Tryz.prog) W 80 5 i _ Tryz.underlying80 hi hz .i64 .i64 M M (by omega) (by omega) (by rw [hb]; omega) (by omega)
 rw [hs] at this
 simpa [Value.cells] using this
theorem que_new (M : Nat) (h0 : 0 < M) (hM : M ≤ 4096) (w : World) : Calls Tryz.prog 25 #[.int .i64 M] w fun e w' => e = .returned (.tuple #[.pointer (some ⟨w.heap.size + 1, 0, none⟩), .int .i64 0]) ∧ QueAt w' (w.heap.size + 1) w.heap.size 0 M [] false ∧ Below w.heap.size w w' := by
 have hmk := make_bytes M hM
 have hm1 : ¬ ((M : Int) < 0) := by omega
 have hm2 : ¬ (4096 < (M : Int)) := by omega
 go_enter Tryz.func25, Tryz.ntmps25
 go_wp2_with fail
 go_ret2
 refine ⟨rfl, ⟨?_, ⟨madeCells #[.int .u8 0] M, (Below.heap_alloc (w.alloc (.cells (madeCells #[.int .u8 0] M) 5)) _ w.heap.size (by simp)).trans (heap_alloc_new w _), by rw [size_madeCells], fun i hi => absurd hi (Nat.not_lt_zero _)⟩, Nat.zero_le _, h0, hM⟩, Grows.below (((Grows.refl w).alloc _).alloc _)⟩
 have := heap_alloc_new (w.alloc (.cells (madeCells #[.int .u8 0] M) 5)) (.cells #[.slice (some ⟨w.heap.size, 0, none⟩) M M, .int .i64 0, .int .i64 0, .bool false] 84)
 rwa [World.size_alloc] at this
theorem mod_ne {fr i n M : Nat} (hi : i < n) (hn : n < M) : (fr + n) % M ≠ (fr + i) % M := by
 intro e
 have hM : 0 < M := by omega
 have h1 := Nat.div_add_mod (fr + n) M
 have h2 := Nat.div_add_mod (fr + i) M
 rw [e] at h1
 have h3 : M * ((fr + n) / M) = M * ((fr + i) / M) + (n - i) := by omega
 rcases Nat.lt_or_ge ((fr + i) / M) ((fr + n) / M) with h | h
 · have h4 : M * ((fr + i) / M + 1) ≤ M * ((fr + n) / M) := Nat.mul_le_mul_left M h
   rw [Nat.mul_add, Nat.mul_one] at h4
   omega
 · have h4 : M * ((fr + n) / M) ≤ M * ((fr + i) / M) := Nat.mul_le_mul_left M h
   omega
theorem row4q {W : World} {qp lb fr M : Nat} {q : List UInt8} {over : Bool} (h : QueAt W qp lb fr M q over) : W.cell? ⟨qp, 0, none⟩ = some (.slice (some ⟨lb, 0, none⟩) M M) ∧ W.cell? ⟨qp, 1, none⟩ = some (.int .i64 fr) ∧ W.cell? ⟨qp, 2, none⟩ = some (.int .i64 q.length) ∧ W.cell? ⟨qp, 3, none⟩ = some (.bool over) ∧ W.frozen? ⟨qp, 1, none⟩ = false ∧ W.frozen? ⟨qp, 2, none⟩ = false ∧ W.frozen? ⟨qp, 3, none⟩ = false :=
 ⟨cell_row h.box 0, cell_row h.box 1, cell_row h.box 2, cell_row h.box 3, frozen_row h.box 1, frozen_row h.box 2, frozen_row h.box 3⟩
theorem ring_put (qp lb fr M : Nat) (q : List UInt8) (over : Bool) (x : UInt8) (w : World) (h : QueAt w qp lb fr M q over) (hl : q.length < M) : Calls Tryz.prog 110 #[.pointer (some ⟨qp, 0, none⟩), .int .u8 x.toNat] w fun e w' => e = .returned (.tuple #[]) ∧ QueTo w w' qp lb M (q ++ [x]) over := by
 have H := Lib.hid h
 obtain ⟨c, hc, hn, hcc⟩ := h.row
 have hfr := h.fr_lt
 have hmo := h.most
 obtain ⟨c0, c1, c2, c3, f1, f2, f3⟩ := row4q h
 have hfz := frozen_row hc ((fr + q.length) % M)
 have hlt : (fr + q.length) % M < M := Nat.mod_lt _ (by omega)
 have hcl : w.cell? ⟨lb, (fr + q.length) % M, none⟩ = some (c[(fr + q.length) % M]?.getD undef) := by
  rw [cell_row hc, Array.getElem?_eq_getElem (by omega)]
  rfl
 have hw0 : ((fr : Int) + (q.length : Int)).tmod M = (((fr + q.length) % M : Nat) : Int) := by rw [← Int.natCast_add]; exact (Int.ofNat_tmod _ M).symm
 have hw2 : IntKind.i64.wrap ((fr : Int) + (q.length : Int)) = (fr : Int) + (q.length : Int) := wrap_in (by omega) (by omega)
 have hw1 : IntKind.i64.wrap ((q.length : Int) + 1) = (((q ++ [x]).length : Nat) : Int) := by rw [wrap_in (by omega) (by omega), List.length_append]; rfl
 have hnew : ∀ i, i < (q ++ [x]).length → (c.setIfInBounds ((fr + q.length) % M) (.int .u8 x.toNat))[(fr + i) % M]? = some (.int .u8 ((q ++ [x])[i]?.getD 0).toNat) := fun i hi => by
  rw [List.length_append] at hi
  have hi : i < q.length + 1 := hi
  rw [Array.getElem?_setIfInBounds]
  by_cases e : i = q.length
  · subst e
    rw [if_pos rfl, if_pos (by omega)]
    simp
  · rw [if_neg (mod_ne (by omega) hl), hcc i (by omega), List.getElem?_append_left (by omega)]
 generalize hmm : (fr + q.length) % M = m at *
 have hmi : (m : Int) < M := by omega
 have hm0 : (0 : Int) ≤ (m : Int) := by omega
 have hM0 : ¬ M = 0 := by omega
 have HNEW := Lib.hid hnew
 have HC := Lib.hid hc
 have hqn := h.ne
 clear h hnew hcc hc hmm
 go_enter Tryz.func110, Tryz.ntmps110
 go_upto_region 0 with fail
 refine wp_region_noPanic ?_
 refine wp_region_k (S := fun W : World => W = w.drew) 21 (by kernel_rfl) (rfl) (fun hHeld => ?_)
 refine kSK 0 hHeld ?_
 refine kSK 1 hHeld ?_
 refine kSK 2 hHeld ?_
 refine kTK (v := ?_) 3 [] hHeld ?y4 ?_
 case y4 => (intro W hSw; subst hSw; go_simp; try with_reducible rfl)
 refine kSK 4 hHeld ?_
 try refine kNK ?_
 refine kSK 5 hHeld ?_
 refine kSK 6 hHeld ?_
 refine kTK (v := ?_) 7 [] hHeld ?y8 ?_
 case y8 => (intro W hSw; subst hSw; go_simp; try with_reducible rfl)
 refine kSK 8 hHeld ?_
 refine kSK 9 hHeld ?_
 try refine kNK ?_
 refine kSK 10 hHeld ?_
 refine kTK (v := ?_) 11 [] hHeld ?y12 ?_
 case y12 => (intro W hSw; subst hSw; go_simp; try with_reducible rfl)
 refine kSK 12 hHeld ?_
 refine kSK 13 hHeld ?_
 refine kSK 14 hHeld ?_
 try refine kNK ?_
 refine kSK 15 hHeld ?_
 refine kTK (v := ?_) 16 [] hHeld ?y17 ?_
 case y17 => (intro W hSw; subst hSw; go_simp; try with_reducible rfl)
 refine kSK 17 hHeld ?_
 refine kSK 18 hHeld ?_
 refine kSK 19 hHeld ?_
 try refine kNK ?_
 refine kSK 20 hHeld ?_
 try refine kNK ?_
 refine kPK 21 fun KQ hKQ => ?_
 go_simp
 refine hKQ.out _ _ ?_
 clear hKQ KQ
 try refine kNK ?_
 refine wpAnyK_done (by kernel_rfl) ?_ _
 refine NoPanic.normal ?_
 go_wp2_with fail
 go_end0
 refine ⟨rfl, ⟨⟨fr, ⟨?_, ⟨_, ?_, by simpa using hn, HNEW.out⟩, by rw [List.length_append]; exact hl, hfr, H.out.most⟩⟩, ?_⟩⟩
 · have h1 := heap_set_same (W := w.setCell ⟨lb, m, none⟩ (.int .u8 x.toNat)) ((heap_setCell_other _ _ _ _ hqn).trans H.out.box) 2 (.int .i64 ((q.length : Int) + 1))
   rw [show ((q.length : Int) + 1) = (((q ++ [x]).length : Nat) : Int) by rw [List.length_append]; rfl] at h1 ⊢
   exact h1
 · exact (heap_setCell_other _ _ _ _ hqn.symm).trans (heap_set_same HC.out m _)
 · exact (((Keeps.refl _ w).setCell' (p := ⟨lb, m, none⟩) (.inr rfl) _).setCell' (p := ⟨qp, 2, none⟩) (.inl rfl) _).trans (Keeps.of_below (Below.refl _ _).drew) fun k hk => .inl hk
def pushQ (M : Nat) (q s : List UInt8) : List UInt8 := if M < q.length + s.length then q else q ++ s
def pushO (M : Nat) (q s : List UInt8) (over : Bool) : Bool := if M < q.length + s.length then true else over
theorem QueTo.other {w w' : World} {qp lb M : Nat} {q : List UInt8} {over : Bool} (h : QueTo w w' qp lb M q over) {b : Nat} {o : Obj} (hb : w.heap[b]? = some o) (h1 : b ≠ qp) (h2 : b ≠ lb) : w'.heap[b]? = some o :=
 (h.2.block b (block_lt hb) (fun e => e.elim h1 h2)).trans hb
theorem QueTo.trans {w w1 w2 : World} {qp lb M : Nat} {q1 q2 : List UInt8} {o1 o2 : Bool} (h : QueTo w w1 qp lb M q1 o1) (k : QueTo w1 w2 qp lb M q2 o2) : QueTo w w2 qp lb M q2 o2 := ⟨k.1, h.2.trans k.2 fun k hk => .inl hk⟩
theorem QueTo.refl {w : World} {qp lb fr M : Nat} {q : List UInt8} {o : Bool} (h : QueAt w qp lb fr M q o) : QueTo w w qp lb M q o := ⟨⟨fr, h⟩, Keeps.refl _ w⟩
theorem que_push (qp lb fr M : Nat) (q : List UInt8) (over : Bool) (b : Nat) (s : List UInt8) (w : World) (h : QueAt w qp lb fr M q over) (hb : w.heap[b]? = some (.cells #[.string ⟨s.toArray⟩] 9 (0, 0))) (h1 : b ≠ qp) (h2 : b ≠ lb) (hs : s.length ≤ 1000000) :
 Calls Tryz.prog 91 #[.pointer (some ⟨qp, 0, none⟩), .slice (some ⟨b, 0, none⟩) 1 1] w fun e w' => e = .returned (.bool (decide (q.length + s.length ≤ M))) ∧ QueTo w w' qp lb M (pushQ M q s) (pushO M q s over) := by
 have H := Lib.hid h
 have hql := h.len
 have hmo := h.most
 have HB := Lib.hid hb
 obtain ⟨c0, c1, c2, c3, f1, f2, f3⟩ := row4q h
 have hbc : w.cell? ⟨b, 0, none⟩ = some (.string ⟨s.toArray⟩) := cell_row hb 0
 have hw1 : IntKind.i64.wrap ((q.length : Int) + (s.length : Int)) = (q.length : Int) + (s.length : Int) := wrap_in (by omega) (by omega)
 clear h hb
 go_enter Tryz.func91, Tryz.ntmps91
 go_wp2_with fail
 go_loopw [5, 20] (fun n i wr => wr = w ∧ ((i = .int .i64 0 ∧ n = .int .i64 q.length) ∨ (i = .int .i64 1 ∧ n = .int .i64 ((q.length : Int) + (s.length : Int))))) (fun _ i _ => 1 - (intOf i).toNat)
 case atStart => exact ⟨rfl, .inl ⟨rfl, rfl⟩⟩
 case round =>
  obtain ⟨rfl, ⟨rfl, rfl⟩ | ⟨rfl, rfl⟩⟩ := hrel
  · go_wp2_with fail
    exact ⟨⟨trivial, .inr ⟨rfl, rfl⟩⟩, by simp [intOf]⟩
  · by_cases hfull : M < q.length + s.length
    · have hz : (M : Int) < (q.length : Int) + (s.length : Int) := by omega
      go_wp2_with fail
      go_ret
      refine ⟨by simp only [show decide (q.length + s.length ≤ M) = false by simp; omega]; rfl, ?_⟩
      unfold pushQ pushO
      rw [if_pos hfull, if_pos hfull]
      exact ⟨⟨fr, heap_set_same H.out.box 3 (.bool true), by obtain ⟨c, hc, r⟩ := H.out.row; exact ⟨c, (heap_setCell_other _ _ _ _ H.out.ne.symm).trans hc, r⟩, H.out.len, H.out.fr_lt, H.out.most⟩, (Keeps.refl _ wr).setCell' (p := ⟨qp, 3, none⟩) (.inl rfl) _⟩
    · have hz : ¬ (M : Int) < (q.length : Int) + (s.length : Int) := by omega
      go_wp2_with fail
      go_loopw [42] (fun i W2 => (i = .int .i64 0 ∧ W2 = wr) ∨ (i = .int .i64 1 ∧ QueTo wr W2 qp lb M (q ++ s) over)) (fun i _ => 1 - (intOf i).toNat)
      case atStart => exact .inl ⟨rfl, rfl⟩
      case round =>
       rcases hrel with ⟨rfl, rfl⟩ | ⟨rfl, hT⟩
       · go_wp2_with fail
         go_loopw [48] (fun i W3 => ∃ k : Nat, k ≤ s.length ∧ i = .int .i64 k ∧ QueTo wr W3 qp lb M (q ++ s.take k) over) (fun i _ => s.length - (intOf i).toNat)
         case atStart => exact ⟨0, Nat.zero_le _, rfl, by simpa using QueTo.refl H.out⟩
         case round =>
          obtain ⟨k, hk, rfl, hT⟩ := hrel
          by_cases hlt : k < s.length
          · have hzk : (k : Int) < (s.length : Int) := by omega
            have hzn : k ≠ s.length := by omega
            have hz0 : (0 : Int) ≤ (k : Int) := by omega
            have hPUT : ∀ W, W = wr.drew → Calls Tryz.prog 110 #[.pointer (some ⟨qp, 0, none⟩), .int .u8 (s[k]?.getD 0).toNat] W fun e w' => e = .returned (.tuple #[]) ∧ QueTo W w' qp lb M (q ++ s.take k ++ [s[k]?.getD 0]) over := by
             rintro W rfl
             obtain ⟨fr', hA⟩ := hT.1
             exact ring_put qp lb fr' M _ over _ _ (hA.below (Below.refl _ _).drew) (by rw [List.length_append, List.length_take]; omega)
            have HPUT := Lib.hid (hPUT _ rfl)
            have HGX : Hid ((⟨s.toArray⟩ : ByteArray)[k]'(by show k < s.toArray.size; simpa using hlt) = s[k]?.getD 0) := by
             show s.toArray[k]'(by simpa using hlt) = _
             simp [List.getElem?_eq_getElem hlt]
            have HT := Lib.hid hT
            clear hT hPUT
            go_upto_region 18 with fail
            refine wp_region_noPanic ?_
            refine wp_region_k (S := fun W : World => True) 6 (by kernel_rfl) (trivial) (fun hHeld => ?_)
            refine kSK 0 hHeld ?_
            refine kSK 1 hHeld ?_
            refine kSK 2 hHeld ?_
            refine kSK 3 hHeld ?_
            refine kSK 4 hHeld ?_
            try refine kNK ?_
            refine kTK (v := ?_) 5 [] hHeld ?y6 ?_
            case y6 => (intro W hSw; go_simp; try with_reducible rfl)
            try refine kNK ?_
            refine kPK 6 fun KQ hKQ => ?_
            go_simp
            go_at_call 110
            rw [HGX.out]
            refine HPUT.out.mono ?_
            rintro e w3 ⟨rfl, hq3⟩
            have HQ3 := Lib.hid hq3
            clear hq3
            go_wp2_with fail
            refine hKQ.out _ _ ?_
            clear hKQ KQ
            try refine kNK ?_
            refine wpAnyK_done (by kernel_rfl) ?_ _
            refine NoPanic.normal ?_
            go_wp2_with fail
            refine ⟨⟨k + 1, by omega, by go_num, ?_⟩, by simp [intOf]; omega⟩
            have hq := HT.out.trans (QueTo.after (Below.refl _ _).drew HQ3.out)
            rw [List.append_assoc] at hq
            have e : s.take (k + 1) = s.take k ++ [s[k]?.getD 0] := by
             rw [List.take_add_one, List.getElem?_eq_getElem hlt]
             rfl
            rw [e]
            exact hq
          · obtain rfl : k = s.length := by omega
            have HT := Lib.hid hT
            clear hT
            go_wp2_with fail
            refine ⟨.inr ⟨rfl, ?_⟩, by simp [intOf]⟩
            simpa using HT.out
       · have HT := Lib.hid hT
         clear hT
         go_wp2_with fail
         go_ret
         have hP : pushQ M q s = q ++ s ∧ pushO M q s over = over ∧ decide (q.length + s.length ≤ M) = true := by
          unfold pushQ pushO
          rw [if_neg hfull, if_neg hfull]
          exact ⟨rfl, rfl, by simp; omega⟩
         rw [hP.1, hP.2.1, hP.2.2]
         exact ⟨rfl, HT.out⟩
end
end Go.Proofs.YtmgeghoalmonoaaGreatDoor
