/- Walks: params.Buffer.Reset, the reference's Buffer.Push. -/
import Derived.Test.YtdakiocgaihcnaaBuf
import Derived.Deep.RegionWith
namespace Go.Proofs.Ytdakiocgaihcnaa
open Go.RowKit

/-- Block g is the reference's Buffer. -/
def RBuf (base : Nat) (W : World) (g : Nat) (l : List UInt8) (most lost : Int) : Prop :=
  base ≤ g ∧ W.heap[g]? = some (.cells #[.string ⟨l.toArray⟩, .int .i64 most, .int .i64 lost] 42 (0, 0))
theorem RBuf.lt {base : Nat} {W : World} {g : Nat} {l : List UInt8} {most lost : Int} (h : RBuf base W g l most lost) : g < W.heap.size := (Array.getElem?_eq_some_iff.1 h.2).1
theorem RBuf.cell {base : Nat} {W : World} {g : Nat} {l : List UInt8} {most lost : Int} (h : RBuf base W g l most lost) : W.cell? ⟨g, 0, none⟩ = some (.string ⟨l.toArray⟩) ∧ W.cell? ⟨g, 1, none⟩ = some (.int .i64 most) ∧ W.cell? ⟨g, 2, none⟩ = some (.int .i64 lost) :=
  ⟨by rw [cell_of_row W g 0 _ _ _ h.2]; rfl, by rw [cell_of_row W g 1 _ _ _ h.2]; rfl, by rw [cell_of_row W g 2 _ _ _ h.2]; rfl⟩

theorem grownBy_cells (W : World) (g i : Nat) (v : Value) : W.grownBy (W.setCell ⟨g, i, none⟩ v) (some g) :=
  ⟨rfl, rfl, rfl, by simp [World.setCell], fun k _ hk => Below.heap_setCell _ _ _ _ (fun e => hk (by rw [e]))⟩

set_option maxHeartbeats 2000000 in
theorem reset_any (base g : Nat) (v : Value) (l : List UInt8) (most lost : Int) (w : World) (h : Buf base w g v l most lost) :
    Calls Try.prog 19 #[.pointer (some ⟨g, 0, none⟩)] w fun e w' => (∃ u, e = .returned u) ∧ Buf base w' g (.slice none 0 0) [] most 0 ∧ Below base w w' ∧ w'.heap.size = w.heap.size ∧ (∀ k, k ≠ g → w'.heap[k]? = w.heap[k]?) := by
  obtain ⟨c0, c1, c2⟩ := h.cell
  have f0 := frozen_row h.2.1 0
  have f2 := frozen_row h.2.1 2
  have H := Lib.hid h
  clear h
  go_enter Try.func19, Try.ntmps19
  go_wp2
  go_end0
  have hb := H.out
  have h1 := heap_set_same hb.2.1 0 (.slice none 0 0)
  refine ⟨⟨_, rfl⟩, ⟨hb.1, ?_, World.ownsRow_nil _ _ _ _⟩, ?_, by simp [World.setCell], fun k hk => ?_⟩
  · exact heap_set_same h1 2 (.int .i64 0)
  · exact ((Below.refl base w).setCell (p := ⟨g, 0, none⟩) hb.1 _).setCell (p := ⟨g, 2, none⟩) hb.1 _
  · exact (Below.heap_setCell _ _ _ _ hk).trans (Below.heap_setCell _ _ _ _ hk)

set_option maxHeartbeats 2000000 in
theorem rpush_full (base g : Nat) (l : List UInt8) (most lost : Int) (x : Int) (w : World) (h : RBuf base w g l most lost) (hm : most ≤ l.length) (hl : l.length ≤ 100000) (h0 : 0 ≤ lost) (h1 : lost ≤ 100000) :
    Calls Try.prog 21 #[.pointer (some ⟨g, 0, none⟩), .int .u8 x] w fun e w' => e = .returned (.bool false) ∧ RBuf base w' g l most (lost + 1) ∧ Below base w w' ∧ w'.heap.size = w.heap.size ∧ (∀ k, k ≠ g → w'.heap[k]? = w.heap[k]?) := by
  obtain ⟨c0, c1, c2⟩ := h.cell
  have f2 := frozen_row h.2 2
  have hs : (⟨l.toArray⟩ : ByteArray).size = l.length := by show l.toArray.size = _; simp
  have hge : most ≤ ((⟨l.toArray⟩ : ByteArray).size : Int) := by omega
  have H := Lib.hid h
  clear h
  generalize (⟨l.toArray⟩ : ByteArray) = S at c0 hs hge
  go_enter Try.func21, Try.ntmps21
  go_wp2
  go_quiet (fail)
  go_wp2
  go_ret
  have hb := H.out
  exact ⟨rfl, ⟨hb.1, heap_set_same (W := w.drewN nq) hb.2 2 _⟩, (below_drewN' nq).setCell (p := ⟨g, 2, none⟩) hb.1 _, by simp [World.setCell, World.drewN], fun k hk => Below.heap_setCell _ _ _ _ hk⟩

theorem conv_byte (W : World) (b : Nat) (x : UInt8) (fr : Nat × Nat) (hg : W.heap[b]? = some (.cells #[.int .u8 x.toNat] 5 fr)) :
    Sem.run Try.prog (convert 49 9 (.slice (some ⟨b, 0, none⟩) 1 1)) W = .ok (.string ⟨#[x]⟩) W := by
  refine run_convert_bytes_back (P := Try.prog) W _ _ _ ⟨b, 0, none⟩ 1 [x] Try.underlying49 Try.underlying5 Try.underlying9 fun j hj => ?_
  obtain rfl : j = 0 := by simp at hj; omega
  have : W.cell? ⟨b, 0, none⟩ = some (.int .u8 x.toNat) := by
    rw [cell_of_row _ b 0 _ _ _ hg]; rfl
  show World.cell? _ (Addr.add ⟨b, 0, none⟩ 0) = _
  rw [show Addr.add ⟨b, 0, none⟩ 0 = ⟨b, 0, none⟩ from rfl, this]
  rfl
theorem row_at (W : World) (o : Obj) : (W.alloc o).heap[W.heap.size]? = some o := by
  show (W.heap.push _)[W.heap.size]? = _
  simp

set_option maxHeartbeats 4000000 in
theorem rpush_room (base g : Nat) (l : List UInt8) (most lost : Int) (x : UInt8) (w : World) (h : RBuf base w g l most lost) (hbase : base ≤ w.heap.size) (hm : (l.length : Int) < most) (hl : l.length ≤ 100000) :
    Calls Try.prog 21 #[.pointer (some ⟨g, 0, none⟩), .int .u8 x.toNat] w fun e w' => e = .returned (.bool true) ∧ RBuf base w' g (l ++ [x]) most lost ∧ Below base w w' ∧ w.heap.size ≤ w'.heap.size ∧ (∀ k, k ≠ g → k < w.heap.size → w'.heap[k]? = w.heap[k]?) := by
  obtain ⟨c0, c1, c2⟩ := h.cell
  have f0 := frozen_row h.2 0
  have hlt := h.lt
  have hs : (⟨l.toArray⟩ : ByteArray).size = l.length := by show l.toArray.size = _; simp
  have hlt2 : ((⟨l.toArray⟩ : ByteArray).size : Int) < most := by omega
  have hcat : (⟨l.toArray⟩ : ByteArray) ++ ⟨#[x]⟩ = ⟨(l ++ [x]).toArray⟩ := by
    apply ByteArray.ext
    rw [ByteArray.data_append]
    simp
  have h1s : (⟨#[x]⟩ : ByteArray).size ≤ 1 := Nat.le_refl 1
  have H := Lib.hid h
  have HC := Lib.hid hcat
  clear h hcat
  have hcv := fun q => conv_byte _ _ x _ (row_at (w.drewN q) (.cells #[.int .u8 x.toNat] 5))
  generalize (⟨#[x]⟩ : ByteArray) = X at hcv h1s HC
  have hS : (⟨l.toArray⟩ : ByteArray).size ≤ 100000 := by omega
  clear hs
  generalize (⟨l.toArray⟩ : ByteArray) = S at c0 hS hlt2 HC
  go_enter Try.func21, Try.ntmps21
  go_wp2
  go_quiet (fail)
  have hc1 := hcv (nq + 1)
  rw [show (w.drewN (nq + 1)).heap = w.heap from rfl] at hc1
  have ca := (World.cell?_of_block (a := ⟨g, 0, none⟩) (Below.heap_alloc (w.drewN (nq + 1)) (.cells #[.int .u8 x.toNat] 5) g hlt)).trans c0
  have fa := (World.frozen?_of_block (a := ⟨g, 0, none⟩) (Below.heap_alloc (w.drewN (nq + 1)) (.cells #[.int .u8 x.toNat] 5) g hlt)).trans f0
  clear hcv hl
  go_wp2
  go_region
  go_wp2
  go_ret
  have hb := H.out
  have hg1 := (Below.heap_alloc (w.drewN (nq + 1)) (.cells #[.int .u8 x.toNat] 5) g hlt).trans hb.2
  refine ⟨rfl, ⟨hb.1, ?_⟩, ((below_drewN' (nq + 1)).alloc hbase _).setCell (p := ⟨g, 0, none⟩) hb.1 _, by simp [World.setCell, World.drewN], fun k hk hkl => (Below.heap_setCell _ _ _ _ hk).trans (Below.heap_alloc (w.drewN (nq + 1)) _ k hkl)⟩
  rw [HC.out]
  exact heap_set_same hg1 0 (.string ⟨(l ++ [x]).toArray⟩)
end Go.Proofs.Ytdakiocgaihcnaa
