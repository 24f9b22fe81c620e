import Derived.Test.YtmgeghoalmonoaaGreatDoorKeySet
import Derived.Test.YtmgeghoalmonoaaGreatDoorShelfS
import Derived.Lib.IndexLaws
import Derived.Lib.AtoiAll
import Derived.OwnWalk

/- Walks: a body's strings and numbers: quoted, number. -/
namespace Go.Proofs.YtmgeghoalmonoaaGreatDoor
open Go.RowKit
set_option linter.unusedSimpArgs false
set_option linter.unusedVariables false
set_option maxRecDepth 100000
attribute [local go_sem] alloc_drewN setCell_drewN World.cell?_alloc_some frozen_alloc_some

/-- What a reader answers of bytes s: an item and the rest. -/
def ItemR (s : ByteArray) (w : World) (e : Ending) (w' : World) : Prop :=
  ∃ (nb : Bool) (x : Int) (t rest : ByteArray) (b : Bool), e = .returned (.tuple #[.agg #[.bool nb, .int .i64 x, .string t], .string rest, .bool b]) ∧ (0 ≤ x ∧ x ≤ 255) ∧ t.size + rest.size ≤ s.size ∧ (b = true → rest.size < s.size) ∧ Below w.heap.size w w'
theorem indexByte_lt (l : List UInt8) (c : UInt8) : Lib.indexByte l c < l.length ∨ l = [] := by
  by_cases h : Lib.indexByte l c < 0
  · cases l with
    | nil => exact .inr rfl
    | cons a l => exact .inl (by simp only [List.length_cons]; omega)
  · obtain ⟨o, ho⟩ := Int.eq_ofNat_of_zero_le (show 0 ≤ Lib.indexByte l c by omega)
    obtain ⟨h1, _⟩ := Lib.indexByte_some ho
    obtain ⟨h2, _⟩ := List.getElem?_eq_some_iff.1 h1
    exact .inl (by rw [ho]; exact Int.ofNat_lt.2 h2)
theorem extract_size (s : ByteArray) (a b : Nat) (h : b ≤ s.size) : (s.extract a b).size = b - a := by
  rw [ByteArray.size_extract]
  omega
theorem index_in (t : ByteArray) (c : Int) (W : World) : Calls Tryz.prog 151 #[.string t, .int .u8 c] W fun e w' => (∃ i : Int, (i = -1 ∨ (0 ≤ i ∧ i < t.size)) ∧ e = .returned (.int .i64 i)) ∧ w' = W :=
  (Tryz.strings_IndexByte t c W).mono fun e w' h => ⟨⟨_, by
    have h1 := Lib.indexByte_ge t.data.toList c.toNat.toUInt8
    rcases indexByte_lt t.data.toList c.toNat.toUInt8 with h2 | h2
    · have e : (t.data.toList.length : Int) = (t.size : Int) := rfl
      omega
    · rw [h2]; exact .inl rfl, h.1⟩, h.2⟩
set_option maxHeartbeats 4000000 in
theorem quoted_ok (s : ByteArray) (h1 : 1 ≤ s.size) (h2 : s.size ≤ 1000) (w : World) : Calls Tryz.prog 140 #[.string s] w fun e w' => ItemR s w e w' := by
  have HB : Hid (Below w.heap.size w (w.alloc (.cells #[.bool false, .int .i64 0, .string ⟨#[]⟩] 191))) := below1 _ _
  have HX := Lib.hid (heap_alloc_new w (.cells #[.bool false, .int .i64 0, .string ⟨#[]⟩] 191))
  have HIB := Lib.hid (fun (t : ByteArray) (c : Int) W => index_in t c W)
  have hex := extract_size s 1 s.size (Nat.le_refl _)
  generalize hsx : s.extract 1 s.size = sx at hex
  have hz1 : (1 : Int) ≤ (s.size : Int) := by omega
  have hz0 : (0 : Int) < (s.size : Int) := by omega
  have hz2 : 0 < s.size := by omega
  go_enter Tryz.func140, Tryz.ntmps140
  go_upto_region 1 with fail
  have HS : Hid (Below (w.heap.size + 1) (w.alloc (.cells #[.bool false, .int .i64 0, .string ⟨#[]⟩] 191)) (w.alloc (.cells #[.bool false, .int .i64 0, .string ⟨#[]⟩] 191)).drew) := (Below.refl _ _).drew
  refine wp_region_noPanic ?_
  refine wp_region_k (S := fun W : World => Below (w.heap.size + 1) (w.alloc (.cells #[.bool false, .int .i64 0, .string ⟨#[]⟩] 191)) W) 4 (by kernel_rfl) (HS.out) (fun hHeld => ?_)
  refine kSK 0 hHeld ?_
  refine kSK 1 hHeld ?_
  refine kSK 2 hHeld ?_
  refine kTK (v := ?_) 3 [] hHeld ?y4 ?_
  case y4 => (intro W hSw; go_simp; try with_reducible rfl)
  try refine kNK ?_
  refine kPK 4 fun KQ hKQ => ?_
  go_simp
  go_at_call 151
  refine (HIB.out _ _ _).mono ?_
  rintro e w1 ⟨⟨ix, hix, rfl⟩, rfl⟩
  go_wp2_with fail
  refine hKQ.out _ _ ?_
  clear hKQ KQ
  try refine kNK ?_
  refine kBK 5 ?_
  try refine kNK ?_
  refine wpAnyK_done (by kernel_rfl) ?_ _
  refine NoPanic.normal ?_
  clear hsx
  have HX1 := Lib.hid ((HS.out.block _ (Nat.lt_succ_self _)).trans HX.out)
  obtain ⟨c0, c1, c2⟩ : (w.alloc (.cells #[.bool false, .int .i64 0, .string ⟨#[]⟩] 191)).drew.cell? ⟨w.heap.size, 0, none⟩ = some (.bool false) ∧ (w.alloc (.cells #[.bool false, .int .i64 0, .string ⟨#[]⟩] 191)).drew.cell? ⟨w.heap.size, 1, none⟩ = some (.int .i64 0) ∧ (w.alloc (.cells #[.bool false, .int .i64 0, .string ⟨#[]⟩] 191)).drew.cell? ⟨w.heap.size, 2, none⟩ = some (.string ⟨#[]⟩) := ⟨cell_row HX1.out 0, cell_row HX1.out 1, cell_row HX1.out 2⟩
  have f0 := frozen_row HX1.out 0
  have f1 := frozen_row HX1.out 1
  have f2 := frozen_row HX1.out 2
  rcases hix with rfl | ⟨hi0, hi1⟩
  · go_wp2_with fail
    refine bodyPost_ret (v := .tuple #[.agg #[.bool false, .int .i64 0, .string ⟨#[]⟩], .string ⟨#[]⟩, .bool false]) (by simp [results, Tryz.results140, go_sem, c0, c1, c2]) rfl ?_
    exact ⟨_, _, _, _, _, rfl, ⟨by decide, by decide⟩, Nat.zero_le _, (fun e => by cases e), HB.out.trans (HS.out.mono (Nat.le_succ _))⟩
  · obtain ⟨k, rfl⟩ := Int.eq_ofNat_of_zero_le hi0
    have hkk : k + 2 ≤ s.size := by omega
    have hw1 : IntKind.i64.wrap ((k : Int) + 1) = ((k + 1 : Nat) : Int) := by rw [wrap_in (by omega) (by omega)]; rfl
    have hw2 : IntKind.i64.wrap ((k : Int) + 2) = ((k + 2 : Nat) : Int) := by rw [wrap_in (by omega) (by omega)]; rfl
    have HSL : Hid (∀ W, Sem.run Tryz.prog (Instr.slice 9 (.string s) (some (.int .i64 1)) (some (.int .i64 ((k + 1 : Nat) : Int))) none) W = .ok (.string (s.extract 1 (k + 1))) W) := fun W => by
      have := run_slice_string (P := Tryz.prog) W 9 s .i64 .i64 1 ((k + 1 : Nat) : Int) Tryz.underlying9 (by decide) (by omega) (by omega)
      rw [Int.toNat_natCast] at this
      exact this
    have HSR : Hid (∀ W, Sem.run Tryz.prog (Instr.slice 9 (.string s) (some (.int .i64 ((k + 2 : Nat) : Int))) none none) W = .ok (.string (s.extract (k + 2) s.size)) W) := fun W => by
      have := run_slice_string_l (P := Tryz.prog) W 9 s Tryz.underlying9 .i64 ((k + 2 : Nat) : Int) (by omega) (by omega)
      rw [Int.toNat_natCast] at this
      exact this
    have e1 := extract_size s 1 (k + 1) (by omega)
    have e2 := extract_size s (k + 2) s.size (Nat.le_refl _)
    generalize s.extract 1 (k + 1) = ta at *
    generalize s.extract (k + 2) s.size = tr at *
    have hklt : ¬ (k : Int) < 0 := by omega
    go_upto_region 4 with fail
    clear c0 c1 c2 f0 f1 f2
    obtain ⟨WA, hWA⟩ : ∃ W, W = (w.alloc (.cells #[.bool false, .int .i64 0, .string ⟨#[]⟩] 191)).drew.drew := ⟨_, rfl⟩
    have HX2 : Hid (WA.heap[w.heap.size]? = some (.cells #[.bool false, .int .i64 0, .string ⟨#[]⟩] 191 (0, 0))) := by show _ = _; rw [hWA]; exact HX1.out
    have HB2 : Hid (Below w.heap.size w WA) := by show Below _ _ _; rw [hWA]; exact (HB.out.trans (HS.out.mono (Nat.le_succ _))).drew
    obtain ⟨n1, hn1⟩ : ∃ z : Int, z = ((k + 1 : Nat) : Int) := ⟨_, rfl⟩
    obtain ⟨n2, hn2⟩ : ∃ z : Int, z = ((k + 2 : Nat) : Int) := ⟨_, rfl⟩
    rw [← hn1] at hw1 HSL
    rw [← hn2] at hw2 HSR
    have hrl := HSL.out
    have hrr := HSR.out
    clear hn1 hn2
    refine wp_region_noPanic ?_
    refine wp_region_k (S := fun W : World => W.heap[w.heap.size]? = some (.cells #[.bool false, .int .i64 0, .string ⟨#[]⟩] 191 (0, 0))) 9 (by kernel_rfl) (HX1.out) (fun hHeld => ?_)
    refine kSK 0 hHeld ?_
    refine kSK 1 hHeld ?_
    refine kSK 2 hHeld ?_
    refine kSK 3 hHeld ?_
    refine kSK 4 hHeld ?_
    try refine kNK ?_
    refine kSK 5 hHeld ?_
    refine kSK 6 hHeld ?_
    refine kSK 7 hHeld ?_
    refine kSK 8 hHeld ?_
    try refine kNK ?_
    refine kPK 9 fun KQ hKQ => ?_
    rw [← hWA]
    obtain ⟨c0, c1, c2⟩ : WA.cell? ⟨w.heap.size, 0, none⟩ = some (.bool false) ∧ WA.cell? ⟨w.heap.size, 1, none⟩ = some (.int .i64 0) ∧ WA.cell? ⟨w.heap.size, 2, none⟩ = some (.string ⟨#[]⟩) := ⟨cell_row HX2.out 0, cell_row HX2.out 1, cell_row HX2.out 2⟩
    have f0 := frozen_row HX2.out 0
    have f1 := frozen_row HX2.out 1
    have f2 := frozen_row HX2.out 2
    clear hWA
    go_simp
    refine hKQ.out _ _ ?_
    clear hKQ KQ
    try refine kNK ?_
    refine kBK 10 ?_
    refine kBK 11 ?_
    try refine kNK ?_
    refine wpAnyK_done (by kernel_rfl) ?_ _
    refine NoPanic.normal ?_
    have hz := heap_set_same (heap_set_same (heap_set_same HX2.out 0 (.bool false)) 1 (.int .i64 0)) 2 (.string ta)
    have z0 : (((WA.setCell ⟨w.heap.size, 0, none⟩ (.bool false)).setCell ⟨w.heap.size, 1, none⟩ (.int .i64 0)).setCell ⟨w.heap.size, 2, none⟩ (.string ta)).cell? ⟨w.heap.size, 0, none⟩ = some (.bool false) := cell_row hz 0
    have z1 : (((WA.setCell ⟨w.heap.size, 0, none⟩ (.bool false)).setCell ⟨w.heap.size, 1, none⟩ (.int .i64 0)).setCell ⟨w.heap.size, 2, none⟩ (.string ta)).cell? ⟨w.heap.size, 1, none⟩ = some (.int .i64 0) := cell_row hz 1
    have z2 : (((WA.setCell ⟨w.heap.size, 0, none⟩ (.bool false)).setCell ⟨w.heap.size, 1, none⟩ (.int .i64 0)).setCell ⟨w.heap.size, 2, none⟩ (.string ta)).cell? ⟨w.heap.size, 2, none⟩ = some (.string ta) := cell_row hz 2
    have hbe : Below w.heap.size w (((WA.setCell ⟨w.heap.size, 0, none⟩ (.bool false)).setCell ⟨w.heap.size, 1, none⟩ (.int .i64 0)).setCell ⟨w.heap.size, 2, none⟩ (.string ta)) := ((HB2.out.setCell (p := ⟨w.heap.size, 0, none⟩) (Nat.le_refl _) _).setCell (p := ⟨w.heap.size, 1, none⟩) (Nat.le_refl _) _).setCell (p := ⟨w.heap.size, 2, none⟩) (Nat.le_refl _) _
    clear hz
    generalize ((WA.setCell ⟨w.heap.size, 0, none⟩ (.bool false)).setCell ⟨w.heap.size, 1, none⟩ (.int .i64 0)).setCell ⟨w.heap.size, 2, none⟩ (.string ta) = WE at *
    go_wp2_with fail
    refine bodyPost_ret (v := .tuple #[.agg #[.bool false, .int .i64 0, .string ta], .string tr, .bool true]) (by simp [results, Tryz.results140, go_sem, z0, z1, z2]) rfl ?_
    exact ⟨_, _, _, _, _, rfl, ⟨by decide, by decide⟩, by omega, (fun _ => by omega), hbe⟩
end Go.Proofs.YtmgeghoalmonoaaGreatDoor
