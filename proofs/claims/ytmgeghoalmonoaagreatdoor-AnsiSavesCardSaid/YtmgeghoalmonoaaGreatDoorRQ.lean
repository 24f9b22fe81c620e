import Derived.Test.YtmgeghoalmonoaaGreatDoorRA
import Derived.Test.YtmgeghoalmonoaaGreatDoorRP
import Derived.BigQuiet
import Derived.Deep.QuietTactic
import Derived.Maps.AppendAt
import Derived.Test.YtmgeghoalmonoaaGreatDoorRM
import Derived.Test.YtmgeghoalmonoaaGreatDoorRN
import Derived.Test.YtmgeghoalmonoaaGreatDoorRD
import Derived.Laws.IdiomStrings
import Derived.Lib.BufferRead
import Derived.Deep.RegionWith

set_option maxRecDepth 100000
set_option maxHeartbeats 16000000
namespace Go.Proofs.YtmgeghoalmonoaaGreatDoor
open Go.RowKit
set_option linter.unusedSimpArgs false
set_option linter.unusedVariables false
/- Walks: vizardref10.Numbers. -/
section
theorem ownsRow_base {W : World} {base : Nat} {e : TypeId} {size : Nat} {v : Value} {k : Nat} {xs : List Value} (h : W.ownsRow base e size v k xs) {j : Nat} (e' : v.ownBlock = some j) : base ≤ j := by
 rcases h.2 with ⟨rfl, _⟩ | ⟨g, cap, cur, rfl, hb, _, _⟩
 · simp [Value.ownBlock] at e'
 · obtain rfl : g = j := by simpa [Value.ownBlock] using e'
   exact hb
end
section
def Buf (base : Nat) (W : World) (g : Nat) (v : Value) (l : List UInt8) (most lost : Int) : Prop :=
 base ≤ g ∧ W.heap[g]? = some (.cells #[v, .int .i64 most, .int .i64 lost] 122 (0, 0)) ∧ W.ownsRow base 5 1 v l.length (bytesV l)
theorem Buf.lt {base : Nat} {W : World} {g : Nat} {v : Value} {l : List UInt8} {most lost : Int} (h : Buf base W g v l most lost) : g < W.heap.size := (Array.getElem?_eq_some_iff.1 h.2.1).1
theorem Buf.cell {base : Nat} {W : World} {g : Nat} {v : Value} {l : List UInt8} {most lost : Int} (h : Buf base W g v l most lost) : W.cell? ⟨g, 0, none⟩ = some v ∧ W.cell? ⟨g, 1, none⟩ = some (.int .i64 most) ∧ W.cell? ⟨g, 2, none⟩ = some (.int .i64 lost) :=
 ⟨by rw [cell_of_row W g 0 _ _ _ h.2.1]; rfl, by rw [cell_of_row W g 1 _ _ _ h.2.1]; rfl, by rw [cell_of_row W g 2 _ _ _ h.2.1]; rfl⟩
theorem Buf.drewN {base : Nat} {W : World} {g : Nat} {v : Value} {l : List UInt8} {most lost : Int} (h : Buf base W g v l most lost) (q : Nat) : Buf base (W.drewN q) g v l most lost := h
theorem Buf.not_row {base : Nat} {W : World} {g : Nat} {v : Value} {l : List UInt8} {most lost : Int} (h : Buf base W g v l most lost) : v.ownBlock ≠ some g := by
 rcases h.2.2.2 with ⟨rfl, _⟩ | ⟨g', cap, cur, rfl, _, hg, _⟩
 · simp [Value.ownBlock]
 · intro e
   obtain rfl : g' = g := by simpa [Value.ownBlock] using e
   rw [h.2.1] at hg
   injection hg with hg
   injection hg with _ ht
   exact absurd ht (by decide)
theorem Buf.below {base : Nat} {W W' : World} {g : Nat} {v : Value} {l : List UInt8} {most lost : Int} (h : Buf base W g v l most lost) (hb : Below W.heap.size W W') : Buf base W' g v l most lost :=
 ⟨h.1, (hb.block g h.lt).trans h.2.1, h.2.2.kept (row := none) ⟨hb.os, hb.tape, hb.output, hb.size, fun i hi _ => hb.block i hi⟩ (by cases v.ownBlock <;> simp)⟩
theorem new_ok (most : Int) (h1 : 1 ≤ most) (h2 : most ≤ 64) (w : World) :
 Calls Tryz.prog 36 #[.int .i64 most] w fun e w' => e = .returned (.tuple #[.pointer (some ⟨w.heap.size, 0, none⟩), .int .i64 0]) ∧ w.alloc (.cells #[.slice none 0 0, .int .i64 most, .int .i64 0] 122) = w' := by
 go_enter Tryz.func36, Tryz.ntmps36
 go_wp2
 go_ret2
 exact ⟨rfl, rfl⟩
theorem new_no (most : Int) (h : most < 1 ∨ 64 < most) (w : World) :
 Calls Tryz.prog 36 #[.int .i64 most] w fun e w' => e = .returned (.tuple #[.pointer none, .int .i64 1]) ∧ w = w' := by
 rcases h with h | h
 · go_enter Tryz.func36, Tryz.ntmps36
   go_wp2
   go_ret2
   exact ⟨rfl, rfl⟩
 · go_enter Tryz.func36, Tryz.ntmps36
   go_wp2
   go_ret2
   exact ⟨rfl, rfl⟩
theorem put_full (base g : Nat) (v : Value) (l : List UInt8) (most lost : Int) (x : Int) (w : World) (h : Buf base w g v l most lost) (hm : most ≤ l.length) (hl : l.length ≤ 100000) (h0 : 0 ≤ lost) (h1 : lost ≤ 100000) :
 Calls Tryz.prog 64 #[.pointer (some ⟨g, 0, none⟩), .int .u8 x] w fun e w' => e = .returned (.bool false) ∧ Buf base w' g v l most (lost + 1) ∧ Below base w w' ∧ w'.heap.size = w.heap.size ∧ (∀ k, k ≠ g → w'.heap[k]? = w.heap[k]?) := by
 obtain ⟨A, c, rfl⟩ := ownsRow_slice h.2.2
 obtain ⟨c0, c1, c2⟩ := h.cell
 have f2 := frozen_row h.2.1 2
 have H := Lib.hid h
 clear h
 go_enter Tryz.func64, Tryz.ntmps64
 go_wp2
 go_quiet (fail)
 go_wp2
 go_ret
 have hb := H.out
 refine ⟨rfl, ⟨hb.1, heap_set_same (W := w.drewN nq) hb.2.1 2 _, ?_⟩, (below_drewN' nq).setCell (p := ⟨g, 2, none⟩) hb.1 _, by simp [World.setCell, World.drewN], fun k hk => Below.heap_setCell _ _ _ _ hk⟩
 exact World.ownsRow.kept (w := w.drewN nq) hb.2.2 ⟨rfl, rfl, rfl, by simp [World.setCell], fun k _ hk => Below.heap_setCell _ _ _ _ (fun e => hk (by rw [e]))⟩ (.inr hb.not_row)
theorem buf_grown {base : Nat} {w w1 : World} {g : Nat} {v : Value} {l : List UInt8} {most lost : Int} (h : Buf base w g v l most lost) (nq : Nat) (o : Obj) (hgrow : ((w.drewN nq).alloc o).grownBy w1 v.ownBlock) :
 w1.heap[g]? = some (.cells #[v, .int .i64 most, .int .i64 lost] 122 (0, 0)) :=
 (hgrow.block g (by rw [World.size_alloc]; exact Nat.lt_succ_of_lt h.lt) (fun e => h.not_row e.symm)).trans ((Below.heap_alloc (w.drewN nq) _ _ h.lt).trans h.2.1)
theorem put_room (base g : Nat) (v : Value) (l : List UInt8) (most lost : Int) (x : UInt8) (w : World) (h : Buf base w g v l most lost) (hbase : base ≤ w.heap.size) (hm : (l.length : Int) < most) (hl : l.length ≤ 100000) :
 Calls Tryz.prog 64 #[.pointer (some ⟨g, 0, none⟩), .int .u8 x.toNat] w fun e w' => e = .returned (.bool true) ∧ ∃ v', Buf base w' g v' (l ++ [x]) most lost ∧ Below base w w' ∧ (∀ k o, k ≠ g → k < w.heap.size → w.heap[k]? = some o → (∀ cs, o ≠ .cells cs 5 (0, 0)) → w'.heap[k]? = some o) := by
 obtain ⟨i0, hi, hz0, hz1, hz2⟩ := info_parts infoU8
 obtain ⟨A, c, rfl⟩ := ownsRow_slice h.2.2
 obtain ⟨c0, c1, c2⟩ := h.cell
 have f0 := frozen_row h.2.1 0
 have hmx : l.length + 1 ≤ maxLen := by unfold maxLen; omega
 have H := Lib.hid h
 clear h
 go_enter Tryz.func64, Tryz.ntmps64
 go_wp2
 go_quiet (fail)
 have o0 : (w.drewN nq).ownsRow base 5 1 (.slice A l.length c) l.length (bytesV l) := H.out.2.2
 go_wp2_with (at_builtin; refine wpList_append_own _ rfl _ _ 80 rfl base 5 i0 (.int .u8 0) 1 1 Tryz.underlying80 hi hz0 hz1 hz2 rfl (by decide) _ _ _ rfl (o0.alloc _) ⟨w.heap.size, 0, none⟩ 1 1 [.int .u8 x.toNat] rfl rfl (cell_one_new _ _ _) (by simp [Value.oneCell']) hmx (by omega) (by simp; omega) ?_; intro v' w1 hown' hgrow _; obtain ⟨g', cap', rfl⟩ := ownsRow_succ hown'; have hg1 := buf_grown H.out nq _ hgrow; have hc1 : w1.cell? ⟨g, 0, none⟩ = some (.slice A l.length c) := (by rw [cell_of_row w1 g 0 _ _ _ hg1]; rfl); have hf1 := frozen_row hg1 0)
 go_ret
 have hb := H.out
 have hne : g' ≠ g := fun e => by
  subst e
  rcases hown'.2 with ⟨e, _⟩ | ⟨g2, cap2, cur2, e, _, hgg, _⟩
  · cases e
  · injection e with e1
    injection e1 with e1
    injection e1 with e1
    subst e1
    rw [hg1] at hgg
    injection hgg with hgg
    injection hgg with _ ht
    exact absurd ht (by decide)
 refine ⟨rfl, .slice (some ⟨g', 0, none⟩) (l.length + 1) cap', ⟨hb.1, heap_set_same hg1 0 _, ?_⟩, ?_, ?_⟩
 · have := hown'.kept (grownBy_setCell' w1 g (.slice (some ⟨g', 0, none⟩) (l.length + 1) cap')) (.inr (by simpa [Value.ownBlock] using hne))
   simpa [bytesV] using this
 · refine ((((below_drewN' nq).alloc (by simpa [World.drewN] using hbase) _).grown hgrow (by simp [World.drewN]; omega) (fun k e => ownsRow_base hb.2.2 e))).setCell (p := ⟨g, 0, none⟩) hb.1 _
 · intro k o hk hlt hko hne
   refine (Below.heap_setCell _ _ _ _ hk).trans ((hgrow.block k (by simp [World.drewN]; omega) (fun e => ?_)).trans ((Below.heap_alloc (w.drewN nq) _ _ hlt).trans hko))
   rcases hb.2.2.2 with ⟨e2, _⟩ | ⟨g2, cap2, cur2, e2, _, hgg, _⟩
   · rw [e2] at e; simp [Act.eval, Value.ownBlock] at e
   · injection e2 with e1
     rw [e1] at e
     obtain rfl : k = g2 := by simpa [Act.eval, Value.ownBlock] using e
     rw [hko] at hgg
     exact hne _ (by injection hgg)
theorem push_full (base g : Nat) (v : Value) (l : List UInt8) (most lost : Int) (x : Int) (w : World) (h : Buf base w g v l most lost) (hm : most ≤ l.length) (hl : l.length ≤ 100000) (h0 : 0 ≤ lost) (h1 : lost ≤ 100000) :
 Calls Tryz.prog 47 #[.pointer (some ⟨g, 0, none⟩), .int .u8 x] w fun e w' => e = .returned (.bool false) ∧ Buf base w' g v l most (lost + 1) ∧ Below base w w' ∧ w'.heap.size = w.heap.size ∧ (∀ k, k ≠ g → w'.heap[k]? = w.heap[k]?) := by
 have H := Lib.hid (put_full base g v l most lost x w h hm hl h0 h1)
 go_enter Tryz.func47, Tryz.ntmps47
 go_wp2_with (go_at_call 64; refine H.out.mono ?_; rintro e w' ⟨rfl, hr⟩)
 go_ret
 exact ⟨rfl, hr⟩
theorem push_room (base g : Nat) (v : Value) (l : List UInt8) (most lost : Int) (x : UInt8) (w : World) (h : Buf base w g v l most lost) (hbase : base ≤ w.heap.size) (hm : (l.length : Int) < most) (hl : l.length ≤ 100000) :
 Calls Tryz.prog 47 #[.pointer (some ⟨g, 0, none⟩), .int .u8 x.toNat] w fun e w' => e = .returned (.bool true) ∧ ∃ v', Buf base w' g v' (l ++ [x]) most lost ∧ Below base w w' ∧ (∀ k o, k ≠ g → k < w.heap.size → w.heap[k]? = some o → (∀ cs, o ≠ .cells cs 5 (0, 0)) → w'.heap[k]? = some o) := by
 have H := Lib.hid (put_room base g v l most lost x w h hbase hm hl)
 go_enter Tryz.func47, Tryz.ntmps47
 go_wp2_with (go_at_call 64; refine H.out.mono ?_; rintro e w' ⟨rfl, hr⟩)
 go_ret
 exact ⟨rfl, hr⟩
theorem bytes_any (base g : Nat) (v : Value) (l : List UInt8) (most lost : Int) (w : World) (h : Buf base w g v l most lost) :
 Calls Tryz.prog 33 #[.pointer (some ⟨g, 0, none⟩)] w fun e w' => e = .returned (.string ⟨l.toArray⟩) ∧ w = w' := by
 have hc := conv_own h.2.2
 obtain ⟨A, c, rfl⟩ := ownsRow_slice h.2.2
 obtain ⟨c0, c1, c2⟩ := h.cell
 clear h
 go_enter Tryz.func33, Tryz.ntmps33
 go_wp2
 go_ret
 exact ⟨rfl, rfl⟩
theorem lost_any (base g : Nat) (v : Value) (l : List UInt8) (most lost : Int) (w : World) (h : Buf base w g v l most lost) :
 Calls Tryz.prog 48 #[.pointer (some ⟨g, 0, none⟩)] w fun e w' => e = .returned (.int .i64 lost) ∧ w = w' := by
 obtain ⟨c0, c1, c2⟩ := h.cell
 clear h
 go_enter Tryz.func48, Tryz.ntmps48
 go_wp2
 go_ret
 exact ⟨rfl, rfl⟩
end
section
theorem grownBy_cells (W : World) (g i : Nat) (v : Value) : W.grownBy (W.setCell ⟨g, i, none⟩ v) (some g) :=
 ⟨rfl, rfl, rfl, by simp [World.setCell], fun k _ hk => Below.heap_setCell _ _ _ _ (fun e => hk (by rw [e]))⟩
theorem reset_any (base g : Nat) (v : Value) (l : List UInt8) (most lost : Int) (w : World) (h : Buf base w g v l most lost) :
 Calls Tryz.prog 34 #[.pointer (some ⟨g, 0, none⟩)] w fun e w' => (∃ u, e = .returned u) ∧ Buf base w' g (.slice none 0 0) [] most 0 ∧ Below base w w' ∧ w'.heap.size = w.heap.size ∧ (∀ k, k ≠ g → w'.heap[k]? = w.heap[k]?) := by
 obtain ⟨c0, c1, c2⟩ := h.cell
 have f0 := frozen_row h.2.1 0
 have f2 := frozen_row h.2.1 2
 have H := Lib.hid h
 clear h
 go_enter Tryz.func34, Tryz.ntmps34
 go_wp2
 go_end0
 have hb := H.out
 have h1 := heap_set_same hb.2.1 0 (.slice none 0 0)
 refine ⟨⟨_, rfl⟩, ⟨hb.1, ?_, World.ownsRow_nil _ _ _ _⟩, ?_, by simp [World.setCell], fun k hk => ?_⟩
 · exact heap_set_same h1 2 (.int .i64 0)
 · exact ((Below.refl base w).setCell (p := ⟨g, 0, none⟩) hb.1 _).setCell (p := ⟨g, 2, none⟩) hb.1 _
 · exact (Below.heap_setCell _ _ _ _ hk).trans (Below.heap_setCell _ _ _ _ hk)
theorem conv_byte (W : World) (b : Nat) (x : UInt8) (fr : Nat × Nat) (hg : W.heap[b]? = some (.cells #[.int .u8 x.toNat] 5 fr)) :
 Sem.run Tryz.prog (convert 80 9 (.slice (some ⟨b, 0, none⟩) 1 1)) W = .ok (.string ⟨#[x]⟩) W := by
 refine run_convert_bytes_back (P := Tryz.prog) W _ _ _ ⟨b, 0, none⟩ 1 [x] Tryz.underlying80 Tryz.underlying5 Tryz.underlying9 fun j hj => ?_
 obtain rfl : j = 0 := by simp at hj; omega
 have : W.cell? ⟨b, 0, none⟩ = some (.int .u8 x.toNat) := by
  rw [cell_of_row _ b 0 _ _ _ hg]; rfl
 show World.cell? _ (Addr.add ⟨b, 0, none⟩ 0) = _
 rw [show Addr.add ⟨b, 0, none⟩ 0 = ⟨b, 0, none⟩ from rfl, this]
 rfl
theorem row_at (W : World) (o : Obj) : (W.alloc o).heap[W.heap.size]? = some o := by
 show (W.heap.push _)[W.heap.size]? = _
 simp
end
end Go.Proofs.YtmgeghoalmonoaaGreatDoor
