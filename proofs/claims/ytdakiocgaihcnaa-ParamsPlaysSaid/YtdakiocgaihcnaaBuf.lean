/- Walks: params.Buffer. -/
import Derived.Test.YtdakiocgaihcnaaAwakeP
import Derived.Test.YtdakiocgaihcnaaRefNumbers
import Derived.Laws.IdiomStrings
import Derived.Lib.BufferRead
namespace Go.Proofs.Ytdakiocgaihcnaa
open Go.RowKit

def bytesV (l : List UInt8) : List Value := l.map fun c => Value.int .u8 c.toNat

/-- Block g is a Buffer that has the bytes l in the slice v. -/
def Buf (base : Nat) (W : World) (g : Nat) (v : Value) (l : List UInt8) (most lost : Int) : Prop :=
  base ≤ g ∧ W.heap[g]? = some (.cells #[v, .int .i64 most, .int .i64 lost] 53 (0, 0)) ∧ W.ownsRow base 5 1 v l.length (bytesV l)

theorem infoU8 : (Try.prog.info? 5).map (fun i => (i.zero, i.size, i.bytes)) = some (some (.int .u8 0), 1, 1) := by kernel_rfl

theorem Buf.lt {base : Nat} {W : World} {g : Nat} {v : Value} {l : List UInt8} {most lost : Int} (h : Buf base W g v l most lost) : g < W.heap.size := (Array.getElem?_eq_some_iff.1 h.2.1).1
theorem Buf.cell {base : Nat} {W : World} {g : Nat} {v : Value} {l : List UInt8} {most lost : Int} (h : Buf base W g v l most lost) : W.cell? ⟨g, 0, none⟩ = some v ∧ W.cell? ⟨g, 1, none⟩ = some (.int .i64 most) ∧ W.cell? ⟨g, 2, none⟩ = some (.int .i64 lost) :=
  ⟨by rw [cell_of_row W g 0 _ _ _ h.2.1]; rfl, by rw [cell_of_row W g 1 _ _ _ h.2.1]; rfl, by rw [cell_of_row W g 2 _ _ _ h.2.1]; rfl⟩
theorem frozen_row {W : World} {g : Nat} {cs : Array Value} {t : TypeId} (h : W.heap[g]? = some (.cells cs t (0, 0))) (i : Nat) : W.frozen? ⟨g, i, none⟩ = false := by
  simp [World.frozen?, h]
theorem Buf.drewN {base : Nat} {W : World} {g : Nat} {v : Value} {l : List UInt8} {most lost : Int} (h : Buf base W g v l most lost) (q : Nat) : Buf base (W.drewN q) g v l most lost := h
theorem heap_set_same {W : World} {g : Nat} {cs : Array Value} {t : TypeId} (h : W.heap[g]? = some (.cells cs t (0, 0))) (i : Nat) (u : Value) : (W.setCell ⟨g, i, none⟩ u).heap[g]? = some (.cells (cs.setIfInBounds i u) t (0, 0)) := by
  simp [World.setCell, Array.getElem?_modify, h]
theorem Buf.not_row {base : Nat} {W : World} {g : Nat} {v : Value} {l : List UInt8} {most lost : Int} (h : Buf base W g v l most lost) : v.ownBlock ≠ some g := by
  rcases h.2.2.2 with ⟨rfl, _⟩ | ⟨g', cap, cur, rfl, _, hg, _⟩
  · simp [Value.ownBlock]
  · intro e
    obtain rfl : g' = g := by simpa [Value.ownBlock] using e
    rw [h.2.1] at hg
    injection hg with hg
    injection hg with _ ht
    exact absurd ht (by decide)
/-- A call that turns nothing below the heap's size keeps a Buffer. -/
theorem Buf.below {base : Nat} {W W' : World} {g : Nat} {v : Value} {l : List UInt8} {most lost : Int} (h : Buf base W g v l most lost) (hb : Below W.heap.size W W') : Buf base W' g v l most lost :=
  ⟨h.1, (hb.block g h.lt).trans h.2.1, h.2.2.kept (row := none) ⟨hb.os, hb.tape, hb.output, hb.size, fun i hi _ => hb.block i hi⟩ (by cases v.ownBlock <;> simp)⟩

theorem conv_own {W : World} {base : Nat} {v : Value} {l : List UInt8} (h : W.ownsRow base 5 1 v l.length (bytesV l)) : (convert 49 9 v).run Try.prog W = .ok (.string ⟨l.toArray⟩) W := by
  rcases h.2 with ⟨rfl, h0⟩ | ⟨g, cap, cur, rfl, _, hg, _⟩
  · have : l = [] := List.eq_nil_of_length_eq_zero h0
    subst this
    exact Lib.run_convert_nil_bytes W _ _ _ 0 Try.underlying49 Try.underlying5 Try.underlying9
  · refine run_convert_bytes_back W _ _ _ ⟨g, 0, none⟩ cap l Try.underlying49 Try.underlying5 Try.underlying9 fun j hj => ?_
    exact h.cells (g := g) rfl j _ (by simp [bytesV, List.getElem?_eq_getElem hj])

set_option maxHeartbeats 1000000 in
theorem new_ok (most : Int) (h1 : 1 ≤ most) (h2 : most ≤ 64) (w : World) :
    Calls Try.prog 14 #[.int .i64 most] w fun e w' => e = .returned (.tuple #[.pointer (some ⟨w.heap.size, 0, none⟩), .int .i64 0]) ∧ w.alloc (.cells #[.slice none 0 0, .int .i64 most, .int .i64 0] 53) = w' := by
  go_enter Try.func14, Try.ntmps14
  go_wp2
  go_ret2
  exact ⟨rfl, rfl⟩
set_option maxHeartbeats 1000000 in
theorem new_no (most : Int) (h : most < 1 ∨ 64 < most) (w : World) :
    Calls Try.prog 14 #[.int .i64 most] w fun e w' => e = .returned (.tuple #[.pointer none, .int .i64 1]) ∧ w = w' := by
  rcases h with h | h
  · go_enter Try.func14, Try.ntmps14
    go_wp2
    go_ret2
    exact ⟨rfl, rfl⟩
  · go_enter Try.func14, Try.ntmps14
    go_wp2
    go_ret2
    exact ⟨rfl, rfl⟩

set_option maxHeartbeats 2000000 in
theorem put_full (base g : Nat) (v : Value) (l : List UInt8) (most lost : Int) (x : Int) (w : World) (h : Buf base w g v l most lost) (hm : most ≤ l.length) (hl : l.length ≤ 100000) (h0 : 0 ≤ lost) (h1 : lost ≤ 100000) :
    Calls Try.prog 24 #[.pointer (some ⟨g, 0, none⟩), .int .u8 x] w fun e w' => e = .returned (.bool false) ∧ Buf base w' g v l most (lost + 1) ∧ Below base w w' ∧ w'.heap.size = w.heap.size ∧ (∀ k, k ≠ g → w'.heap[k]? = w.heap[k]?) := by
  obtain ⟨A, c, rfl⟩ := ownsRow_slice h.2.2
  obtain ⟨c0, c1, c2⟩ := h.cell
  have f2 := frozen_row h.2.1 2
  have H := Lib.hid h
  clear h
  go_enter Try.func24, Try.ntmps24
  go_wp2
  go_quiet (fail)
  go_wp2
  go_ret
  have hb := H.out
  refine ⟨rfl, ⟨hb.1, heap_set_same (W := w.drewN nq) hb.2.1 2 _, ?_⟩, (below_drewN' nq).setCell (p := ⟨g, 2, none⟩) hb.1 _, by simp [World.setCell, World.drewN], fun k hk => Below.heap_setCell _ _ _ _ hk⟩
  exact World.ownsRow.kept (w := w.drewN nq) hb.2.2 ⟨rfl, rfl, rfl, by simp [World.setCell], fun k _ hk => Below.heap_setCell _ _ _ _ (fun e => hk (by rw [e]))⟩ (.inr hb.not_row)

theorem buf_grown {base : Nat} {w w1 : World} {g : Nat} {v : Value} {l : List UInt8} {most lost : Int} (h : Buf base w g v l most lost) (nq : Nat) (o : Obj) (hgrow : ((w.drewN nq).alloc o).grownBy w1 v.ownBlock) :
    w1.heap[g]? = some (.cells #[v, .int .i64 most, .int .i64 lost] 53 (0, 0)) :=
  (hgrow.block g (by rw [World.size_alloc]; exact Nat.lt_succ_of_lt h.lt) (fun e => h.not_row e.symm)).trans ((Below.heap_alloc (w.drewN nq) _ _ h.lt).trans h.2.1)

set_option maxHeartbeats 2000000 in
theorem put_room (base g : Nat) (v : Value) (l : List UInt8) (most lost : Int) (x : UInt8) (w : World) (h : Buf base w g v l most lost) (hbase : base ≤ w.heap.size) (hm : (l.length : Int) < most) (hl : l.length ≤ 100000) :
    Calls Try.prog 24 #[.pointer (some ⟨g, 0, none⟩), .int .u8 x.toNat] w fun e w' => e = .returned (.bool true) ∧ ∃ v', Buf base w' g v' (l ++ [x]) most lost ∧ Below base w w' ∧ (∀ k o, k ≠ g → k < w.heap.size → w.heap[k]? = some o → (∀ cs, o ≠ .cells cs 5 (0, 0)) → w'.heap[k]? = some o) := by
  obtain ⟨i0, hi, hz0, hz1, hz2⟩ := info_parts infoU8
  obtain ⟨A, c, rfl⟩ := ownsRow_slice h.2.2
  obtain ⟨c0, c1, c2⟩ := h.cell
  have f0 := frozen_row h.2.1 0
  have hmx : l.length + 1 ≤ maxLen := by unfold maxLen; omega
  have H := Lib.hid h
  clear h
  go_enter Try.func24, Try.ntmps24
  go_wp2
  go_quiet (fail)
  have o0 : (w.drewN nq).ownsRow base 5 1 (.slice A l.length c) l.length (bytesV l) := H.out.2.2
  go_wp2_with (at_builtin; refine wpList_append_own _ rfl _ _ 49 rfl base 5 i0 (.int .u8 0) 1 1 Try.underlying49 hi hz0 hz1 hz2 rfl (by decide) _ _ _ rfl (o0.alloc _) ⟨w.heap.size, 0, none⟩ 1 1 [.int .u8 x.toNat] rfl rfl (cell_one_new _ _ _) (by simp [Value.oneCell']) hmx (by omega) (by simp; omega) ?_; intro v' w1 hown' hgrow _; obtain ⟨g', cap', rfl⟩ := ownsRow_succ hown'; have hg1 := buf_grown H.out nq _ hgrow; have hc1 : w1.cell? ⟨g, 0, none⟩ = some (.slice A l.length c) := (by rw [cell_of_row w1 g 0 _ _ _ hg1]; rfl); have hf1 := frozen_row hg1 0)
  go_ret
  have hb := H.out
  have hne : g' ≠ g := fun e => by
    subst e
    rcases hown'.2 with ⟨e, _⟩ | ⟨g2, cap2, cur2, e, _, hgg, _⟩
    · cases e
    · injection e with e1
      injection e1 with e1
      injection e1 with e1
      subst e1
      rw [hg1] at hgg
      injection hgg with hgg
      injection hgg with _ ht
      exact absurd ht (by decide)
  refine ⟨rfl, .slice (some ⟨g', 0, none⟩) (l.length + 1) cap', ⟨hb.1, heap_set_same hg1 0 _, ?_⟩, ?_, ?_⟩
  · have := hown'.kept (grownBy_setCell' w1 g (.slice (some ⟨g', 0, none⟩) (l.length + 1) cap')) (.inr (by simpa [Value.ownBlock] using hne))
    simpa [bytesV] using this
  · refine ((((below_drewN' nq).alloc (by simpa [World.drewN] using hbase) _).grown hgrow (by simp [World.drewN]; omega) (fun k e => ownsRow_base hb.2.2 e))).setCell (p := ⟨g, 0, none⟩) hb.1 _
  · intro k o hk hlt hko hne
    refine (Below.heap_setCell _ _ _ _ hk).trans ((hgrow.block k (by simp [World.drewN]; omega) (fun e => ?_)).trans ((Below.heap_alloc (w.drewN nq) _ _ hlt).trans hko))
    rcases hb.2.2.2 with ⟨e2, _⟩ | ⟨g2, cap2, cur2, e2, _, hgg, _⟩
    · rw [e2] at e; simp [Act.eval, Value.ownBlock] at e
    · injection e2 with e1
      rw [e1] at e
      obtain rfl : k = g2 := by simpa [Act.eval, Value.ownBlock] using e
      rw [hko] at hgg
      exact hne _ (by injection hgg)

set_option maxHeartbeats 1000000 in
theorem push_full (base g : Nat) (v : Value) (l : List UInt8) (most lost : Int) (x : Int) (w : World) (h : Buf base w g v l most lost) (hm : most ≤ l.length) (hl : l.length ≤ 100000) (h0 : 0 ≤ lost) (h1 : lost ≤ 100000) :
    Calls Try.prog 15 #[.pointer (some ⟨g, 0, none⟩), .int .u8 x] w fun e w' => e = .returned (.bool false) ∧ Buf base w' g v l most (lost + 1) ∧ Below base w w' ∧ w'.heap.size = w.heap.size ∧ (∀ k, k ≠ g → w'.heap[k]? = w.heap[k]?) := by
  have H := Lib.hid (put_full base g v l most lost x w h hm hl h0 h1)
  go_enter Try.func15, Try.ntmps15
  go_wp2_with (go_at_call 24; refine H.out.mono ?_; rintro e w' ⟨rfl, hr⟩)
  go_ret
  exact ⟨rfl, hr⟩

set_option maxHeartbeats 1000000 in
theorem push_room (base g : Nat) (v : Value) (l : List UInt8) (most lost : Int) (x : UInt8) (w : World) (h : Buf base w g v l most lost) (hbase : base ≤ w.heap.size) (hm : (l.length : Int) < most) (hl : l.length ≤ 100000) :
    Calls Try.prog 15 #[.pointer (some ⟨g, 0, none⟩), .int .u8 x.toNat] w fun e w' => e = .returned (.bool true) ∧ ∃ v', Buf base w' g v' (l ++ [x]) most lost ∧ Below base w w' ∧ (∀ k o, k ≠ g → k < w.heap.size → w.heap[k]? = some o → (∀ cs, o ≠ .cells cs 5 (0, 0)) → w'.heap[k]? = some o) := by
  have H := Lib.hid (put_room base g v l most lost x w h hbase hm hl)
  go_enter Try.func15, Try.ntmps15
  go_wp2_with (go_at_call 24; refine H.out.mono ?_; rintro e w' ⟨rfl, hr⟩)
  go_ret
  exact ⟨rfl, hr⟩

set_option maxHeartbeats 1000000 in
theorem bytes_any (base g : Nat) (v : Value) (l : List UInt8) (most lost : Int) (w : World) (h : Buf base w g v l most lost) :
    Calls Try.prog 16 #[.pointer (some ⟨g, 0, none⟩)] w fun e w' => e = .returned (.string ⟨l.toArray⟩) ∧ w = w' := by
  have hc := conv_own h.2.2
  obtain ⟨A, c, rfl⟩ := ownsRow_slice h.2.2
  obtain ⟨c0, c1, c2⟩ := h.cell
  clear h
  go_enter Try.func16, Try.ntmps16
  go_wp2
  go_ret
  exact ⟨rfl, rfl⟩

set_option maxHeartbeats 1000000 in
theorem lost_any (base g : Nat) (v : Value) (l : List UInt8) (most lost : Int) (w : World) (h : Buf base w g v l most lost) :
    Calls Try.prog 17 #[.pointer (some ⟨g, 0, none⟩)] w fun e w' => e = .returned (.int .i64 lost) ∧ w = w' := by
  obtain ⟨c0, c1, c2⟩ := h.cell
  clear h
  go_enter Try.func17, Try.ntmps17
  go_wp2
  go_ret
  exact ⟨rfl, rfl⟩

set_option maxHeartbeats 1000000 in
theorem len_any (base g : Nat) (v : Value) (l : List UInt8) (most lost : Int) (w : World) (h : Buf base w g v l most lost) :
    Calls Try.prog 20 #[.pointer (some ⟨g, 0, none⟩)] w fun e w' => e = .returned (.int .i64 l.length) ∧ w = w' := by
  have H := Lib.hid (bytes_any base g v l most lost w h)
  clear h
  go_enter Try.func20, Try.ntmps20
  go_wp2_with (go_at_call 16; refine H.out.mono ?_; rintro e w' ⟨rfl, rfl⟩)
  go_ret
  exact ⟨rfl, rfl⟩

set_option maxHeartbeats 1000000 in
theorem bnumbers_any (base g : Nat) (v : Value) (l : List UInt8) (most lost : Int) (w : World) (h : Buf base w g v l most lost) (hl : l.length ≤ 100000) :
    Calls Try.prog 18 #[.pointer (some ⟨g, 0, none⟩)] w fun e W' => ∃ v, e = .returned (.tuple #[v, .bool (Vz.numbers l).2]) ∧
      W'.ownsRow w.heap.size 3 1 v (Vz.numbers l).1.length ((Vz.numbers l).1.map (Value.int .i64)) ∧ Below w.heap.size w W' := by
  have H := Lib.hid (bytes_any base g v l most lost w h)
  have HN := Lib.hid (numbers_any ⟨l.toArray⟩ (by show l.toArray.size ≤ _; simp; omega) w)
  clear h
  go_enter Try.func18, Try.ntmps18
  go_wp2_with (first | (go_at_call 16; refine H.out.mono ?_; rintro e w' ⟨rfl, rfl⟩) | (go_at_call 10; refine HN.out.mono ?_; rintro e w' ⟨u, rfl, hr⟩))
  go_ret2
  exact ⟨u, rfl, hr⟩
end Go.Proofs.Ytdakiocgaihcnaa
