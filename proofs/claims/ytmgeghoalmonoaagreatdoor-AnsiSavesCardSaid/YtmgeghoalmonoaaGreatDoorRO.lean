import Derived.Test.YtmgeghoalmonoaaGreatDoorRD
import Derived.Test.YtmgeghoalmonoaaGreatDoorRC
import Derived.Lib.OthersKept

set_option maxRecDepth 100000
set_option maxHeartbeats 16000000
namespace Go.Proofs.YtmgeghoalmonoaaGreatDoor
open Go.RowKit
set_option linter.unusedSimpArgs false
set_option linter.unusedVariables false
/- Walks: glyph.Of of the set of capitals: the glyphs of the bytes that are shown. -/
section
attribute [local go_sem] alloc_drewN setCell_drewN World.cell?_alloc_some
def tab0 : Array Value := Array.replicate 256 (.int .i32 0)
theorem run_build_tab (W : World) : (Instr.build 217 #[]).run Tryz.prog W = .ok (.agg tab0) W := by kernel_rfl
theorem run_box_tab (W : World) (c : Array Value) : (Instr.box 217 (.agg c)).run Tryz.prog W = .ok (.pointer (some ⟨W.heap.size, 0, none⟩)) (W.alloc (.cells c 217)) := rfl
theorem run_half_from (W : World) (g : Nat) : (Instr.sliceAt 217 (.pointer (some ⟨g, 0, none⟩)) (some (.int .i64 128)) none none).run Tryz.prog W = .ok (.slice (some ⟨g, 128, none⟩) 128 128) W := by kernel_rfl
theorem run_half_to (W : World) (g : Nat) : (Instr.sliceAt 217 (.pointer (some ⟨g, 0, none⟩)) none (some (.int .i64 128)) none).run Tryz.prog W = .ok (.slice (some ⟨g, 0, none⟩) 128 256) W := by kernel_rfl
theorem addr_add0 (g j : Nat) : (⟨g, 0, none⟩ : Addr).add j = ⟨g, j, none⟩ := by
 unfold Addr.add
 split
 · rename_i h; rw [h]
 · simp
theorem runeSize : (Tryz.prog.info? 21).map (·.size) = some 1 := by kernel_rfl
attribute [local go_sem 3000] run_build_tab run_box_tab run_half_from run_half_to
def asciiG (i : Nat) : Int := if 32 ≤ i ∧ i ≤ 126 then (i : Int) else 65533
def TabC (W : World) (g : Nat) (f : Nat → Int) : Prop := RowC W g 217 256 256 (fun j => .int .i32 (f j))
theorem TabC.set {W : World} {g : Nat} {f : Nat → Int} (h : TabC W g f) (i : Nat) (x : Int) : TabC (W.setCell ⟨g, i, none⟩ (.int .i32 x)) g (fun j => if j = i then x else f j) :=
 (RowC.set h i (.int .i32 x)).congr fun j _ => by by_cases e : j = i <;> simp [e]
theorem TabC.congr {W : World} {g : Nat} {f f' : Nat → Int} (h : TabC W g f) (e : ∀ i, i < 256 → f i = f' i) : TabC W g f' := RowC.congr h fun i hi => by rw [e i hi]
theorem tab_new (w : World) : TabC (w.alloc (.cells tab0 217)) w.heap.size (fun _ => 0) :=
 ⟨tab0, heap_alloc_new _ _, by simp [tab0], Nat.le_refl _, fun i hi => by simp [tab0, hi]⟩
theorem ascii_ok (w : World) : Calls Tryz.prog 127 #[] w fun e w' => e = .returned (.pointer (some ⟨w.heap.size, 0, none⟩)) ∧ TabC w' w.heap.size asciiG ∧ Below w.heap.size w w' := by
 go_enter Tryz.func127, Tryz.ntmps127
 go_wp2_with fail
 go_loopw [5] (fun i wr => ∃ k : Nat, k ≤ 256 ∧ i = .int .i64 k ∧ TabC wr w.heap.size (fun j => if j < k then asciiG j else 0) ∧ Below w.heap.size w wr) (fun i _ => 256 - (intOf i).toNat)
 case atStart => exact ⟨0, by decide, rfl, (tab_new w).congr fun i _ => by simp, below1 _ _⟩
 case round =>
  obtain ⟨k, hk, rfl, hT, hb⟩ := hrel
  by_cases hlt : k < 256
  · have hz : (k : Int) < 256 := by omega
    have hc := RowC.cell hT hlt
    have hfz := RowC.frozen hT k
    have HT := Lib.hid hT
    have HB := Lib.hid hb
    clear hT hb
    have hw0 : IntKind.i32.wrap (k : Int) = (k : Int) := by simp [IntKind.wrap, IntKind.bits, IntKind.signed]; omega
    have hstep : ∀ x, x = asciiG k → ∀ W, TabC W w.heap.size (fun j => if j = k then x else if j < k then asciiG j else 0) → TabC W w.heap.size (fun j => if j < k + 1 then asciiG j else 0) := fun x hx W h => h.congr fun i hi => by
     by_cases e : i = k
     · subst e; simp [hx]
     · by_cases e2 : i < k
       · simp [e, e2, show i < k + 1 by omega]
       · simp [e, e2, show ¬ i < k + 1 by omega]
    by_cases h1 : 32 ≤ k
    · by_cases h2 : k ≤ 126
      · have z1 : (32 : Int) ≤ (k : Int) := by omega
        have z2 : (k : Int) ≤ 126 := by omega
        go_wp2_with fail
        refine ⟨⟨k + 1, by omega, by go_num, hstep (k : Int) (by unfold asciiG; rw [if_pos ⟨h1, h2⟩]) _ (((HT.out.set k 65533).set k (k : Int)).congr fun i hi => by by_cases e : i = k <;> simp [e]), (HB.out.setCell (p := ⟨w.heap.size, k, none⟩) (Nat.le_refl _) _).setCell (p := ⟨w.heap.size, k, none⟩) (Nat.le_refl _) _⟩, by simp [intOf]; omega⟩
      · have z1 : (32 : Int) ≤ (k : Int) := by omega
        have z2 : ¬ (k : Int) ≤ 126 := by omega
        go_wp2_with fail
        refine ⟨⟨k + 1, by omega, by go_num, hstep 65533 (by unfold asciiG; rw [if_neg (by omega)]) _ (HT.out.set k 65533), HB.out.setCell (p := ⟨w.heap.size, k, none⟩) (Nat.le_refl _) _⟩, by simp [intOf]; omega⟩
    · have z1 : ¬ (32 : Int) ≤ (k : Int) := by omega
      go_wp2_with fail
      refine ⟨⟨k + 1, by omega, by go_num, hstep 65533 (by unfold asciiG; rw [if_neg (by omega)]) _ (HT.out.set k 65533), HB.out.setCell (p := ⟨w.heap.size, k, none⟩) (Nat.le_refl _) _⟩, by simp [intOf]; omega⟩
  · obtain rfl : k = 256 := by omega
    have HT := Lib.hid hT
    have HB := Lib.hid hb
    clear hT hb
    go_wp2_with fail
    go_ret
    exact ⟨rfl, HT.out.congr fun i hi => by simp [hi], HB.out⟩
def capG (n i : Nat) : Int := if 97 ≤ i ∧ i < n then (i : Int) - 97 + 65 else asciiG i
theorem of_fold (w : World) : Calls Tryz.prog 100 #[.int .i64 5] w fun e w' => e = .returned (.pointer (some ⟨w.heap.size, 0, none⟩)) ∧ RowC w' w.heap.size 217 256 128 (fun j => .int .i32 (capG 123 j)) ∧ Below w.heap.size w w' := by
 have HA := Lib.hid (ascii_ok w)
 go_enter Tryz.func100, Tryz.ntmps100
 go_wp2_with (go_at_call 127; refine HA.out.mono ?_; rintro e w1 ⟨rfl, ht, hb⟩; have HT1 := Lib.hid ht; have HB1 := Lib.hid hb; clear ht hb)
 go_loopw [4] (fun i wr => ∃ k : Nat, 97 ≤ k ∧ k ≤ 123 ∧ i = .int .i32 k ∧ TabC wr w.heap.size (capG k) ∧ Below w.heap.size w wr) (fun i _ => 123 - (intOf i).toNat)
 case atStart => exact ⟨97, by decide, by decide, rfl, HT1.out.congr fun i _ => by unfold capG; rw [if_neg (by omega)], HB1.out⟩
 case round =>
  obtain ⟨k, hk0, hk, rfl, hT, hb⟩ := hrel
  by_cases hlt : k < 123
  · have hz : (k : Int) ≤ 122 := by omega
    have hc := RowC.cell hT (show k < 256 by omega)
    have hfz := RowC.frozen hT k
    have HT := Lib.hid hT
    have HB := Lib.hid hb
    clear hT hb
    have hw0 : IntKind.i32.wrap ((k : Int) - 97) = (k : Int) - 97 := by simp [IntKind.wrap, IntKind.bits, IntKind.signed]; omega
    have hw1 : IntKind.i32.wrap ((k : Int) - 97 + 65) = (k : Int) - 97 + 65 := by simp [IntKind.wrap, IntKind.bits, IntKind.signed]; omega
    have hw2 : IntKind.i32.wrap ((k : Int) + 1) = (k : Int) + 1 := by simp [IntKind.wrap, IntKind.bits, IntKind.signed]; omega
    go_wp2_with fail
    refine ⟨⟨k + 1, by omega, by omega, by go_num, (HT.out.set k ((k : Int) - 97 + 65)).congr fun i hi => ?_, HB.out.setCell (p := ⟨w.heap.size, k, none⟩) (Nat.le_refl _) _⟩, by simp [intOf]; omega⟩
    unfold capG
    by_cases e : i = k
    · subst e
      rw [if_pos rfl, if_pos (by omega)]
    · rw [if_neg e]
      by_cases e2 : 97 ≤ i ∧ i < k
      · rw [if_pos e2, if_pos (by omega)]
      · rw [if_neg e2, if_neg (by omega)]
  · obtain rfl : k = 123 := by omega
    have HT := Lib.hid hT
    have HB := Lib.hid hb
    clear hT hb
    go_wp2_with fail
    refine wp_region_noPanic ?_
    refine wp_region_k (S := fun W' : World => W' = wr.drew) 6 (by kernel_rfl) (rfl) (fun hHeld => ?_)
    refine kSK 0 hHeld ?_
    refine kSK 1 hHeld ?_
    refine kSK 2 hHeld ?_
    refine kSK 3 hHeld ?_
    refine kSK 4 hHeld ?_
    try refine kNK ?_
    refine kSK 5 hHeld ?_
    try refine kNK ?_
    refine kPK 6 fun KQ hKQ => ?_
    rw [if_pos (by rfl)]
    refine wp_copy_rowC (.tmp 47) (.tmp 50) 215 215 rfl 21 1 Tryz.underlying215 runeSize w.heap.size 128 128 128 ⟨w.heap.size, 0, none⟩ 128 256 rfl rfl 128 rfl 217 256 256 (fun j => .int .i32 (capG 123 j)) HT.out ((List.range 128).map fun j => Value.int .i32 (capG 123 j)) (by simp) (fun j v hj => ?_) (fun v hv => ?_) (by decide) (by simp) 128 (.inl (by decide)) (by decide) (fun j => .int .i32 (capG 123 j)) (fun i hi => ?_) ?_
    · obtain ⟨h1, h2⟩ := List.getElem?_eq_some_iff.1 hj
      have h3 : j < 128 := by simpa using h1
      rw [← h2]
      have := RowC.cell (W := wr.drew) HT.out (show j < 256 by omega)
      rw [addr_add0]
      simpa using this
    · obtain ⟨j, _, rfl⟩ := List.mem_map.1 hv
      rfl
    · rw [if_neg (by omega)]
    intro w3 hr3 ho3 hb3 hz3
    have HR3 := Lib.hid hr3
    have HB3 : Hid (Below w.heap.size w w3) := HB.out.drew.trans hb3
    clear hr3 ho3
    refine hKQ.out _ _ ?_
    clear hKQ KQ
    try refine kNK ?_
    refine wpAnyK_done (by kernel_rfl) ?_ _
    refine NoPanic.normal ?_
    go_wp2_with fail
    go_ret
    exact ⟨rfl, HR3.out, HB3.out⟩
theorem capG_fold (b : Nat) (h : 32 ≤ b ∧ b ≤ 126) : capG 123 b = if 97 ≤ b ∧ b ≤ 122 then (b : Int) - 32 else (b : Int) := by
 unfold capG asciiG
 split <;> split <;> omega
theorem glyph_fold (b : Nat) (hb : 32 ≤ b ∧ b ≤ 126) (w : World) : Calls Tryz.prog 79 #[.int .i64 5, .int .u8 b] w fun e w' => e = .returned (.int .i32 (if 97 ≤ b ∧ b ≤ 122 then (b : Int) - 32 else (b : Int))) ∧ Below w.heap.size w w' := by
 have HO := Lib.hid (of_fold w)
 have hb2 : (b : Int) < 256 := by omega
 have hb0 : (0 : Int) ≤ (b : Int) := by omega
 go_enter Tryz.func79, Tryz.ntmps79
 go_wp2_with (go_at_call 100; refine HO.out.mono ?_; rintro e w1 ⟨rfl, ht, hb1⟩; have hcc := RowC.cell ht (show b < 128 by omega); rw [capG_fold b hb] at hcc)
 all_goals (
  go_ret
  exact ⟨by simp_all, hb1⟩)
end
section
attribute [local go_sem] alloc_drewN setCell_drewN World.cell?_alloc_some
def decs (s : ByteArray) (p : Nat) : List Int → Bool
 | [] => decide (¬ p < s.size)
 | r :: rs => decide (p < s.size) && (decide (((Utf8.decode s p).1 : Int) = r) && decs s (p + (Utf8.decode s p).2) rs)
def layF (f : Nat → Int) (a : Nat) : List Int → Nat → Int
 | [] => f
 | r :: rs => layF (fun j => if j = a then r else f j) (a + 1) rs
theorem tabC_block {W W' : World} {g : Nat} {f : Nat → Int} (h : TabC W g f) (e : W'.heap[g]? = W.heap[g]?) : TabC W' g f := by
 obtain ⟨c, hc, r⟩ := h
 exact ⟨c, e.trans hc, r⟩
theorem tabC_lt {W : World} {g : Nat} {f : Nat → Int} (h : TabC W g f) : g < W.heap.size := by
 obtain ⟨c, hc, r⟩ := h
 exact block_lt hc
theorem keeps_iter {F : Nat → Prop} {w W : World} {k p : Nat} {s : ByteArray} (h : Keeps F w W) (hk : w.heap.size ≤ k) : Keeps F w (W.iterAt k s p) := by
 refine ⟨h.os, h.tape, h.output, ?_, fun j hj hn => ?_⟩
 · show w.heap.size ≤ (W.heap.setIfInBounds k _).size
   rw [Array.size_setIfInBounds]
   exact h.size
 · show (W.heap.setIfInBounds k _)[j]? = _
   rw [Array.getElem?_setIfInBounds, if_neg (by omega)]
   exact h.block j hj hn
theorem iter_other {W : World} {k p g : Nat} {s : ByteArray} (hk : g ≠ k) : (W.iterAt k s p).heap[g]? = W.heap[g]? := by
 show (W.heap.setIfInBounds k _)[g]? = _
 rw [Array.getElem?_setIfInBounds, if_neg (Ne.symm hk)]
theorem lay_any (g a : Nat) (s : ByteArray) (rs : List Int) (f : Nat → Int) (hd : decs s 0 rs = true) (ha : a + rs.length ≤ 256) (w : World) (h : TabC w g f) :
 Calls Tryz.prog 128 #[.pointer (some ⟨g, 0, none⟩), .int .i64 a, .string s] w fun e w' => e = .returned (.tuple #[]) ∧ TabC w' g (layF f a rs) ∧ Keeps (fun k => k = g) w w' := by
 have hg := tabC_lt h
 have HD := Lib.hid hd
 have H := Lib.hid h
 clear hd h
 go_enter Tryz.func128, Tryz.ntmps128
 go_wp2_with fail
 go_loopw [1] (fun v wr => ∃ (b p : Nat) (rs' : List Int) (f' : Nat → Int), v = .int .i64 b ∧ b + rs'.length ≤ 256 ∧ rs'.length ≤ rs.length ∧ decs s p rs' = true ∧ layF f' b rs' = layF f a rs ∧ wr.heap[w.heap.size]? = some (.stringIter s p) ∧ TabC wr g f' ∧ Keeps (fun k => k = g) w wr ∧ True) (fun v _ => 256 - (intOf v).toNat)
 case atStart => exact ⟨a, 0, rs, f, rfl, ha, Nat.le_refl _, HD.out, rfl, heap_alloc_new w _, tabC_block H.out (Below.heap_alloc w _ _ hg), (Keeps.refl _ w).alloc _, trivial⟩
 case round =>
  obtain ⟨b, p, rs', f', rfl, hb, hl, hd', he, hit, hT, hK, -⟩ := hrel
  have HE := Lib.hid he
  have HIT := Lib.hid hit
  have HT := Lib.hid hT
  have HK := Lib.hid hK
  cases rs' with
  | nil =>
    have hp : ¬ p < s.size := by simpa [decs] using hd'
    have hrun := fun ty => Lib.run_next_end_at (P := Tryz.prog) wr w.heap.size s p ty hit hp
    clear he hit hT hK hd'
    go_wp2_with fail
    go_end0
    exact ⟨rfl, by rw [← HE.out]; exact HT.out, HK.out⟩
  | cons r rs' =>
    have hd2 : p < s.size ∧ ((Utf8.decode s p).1 : Int) = r ∧ decs s (p + (Utf8.decode s p).2) rs' = true := by simpa [decs] using hd'
    have hrun := fun ty => Lib.run_next_any_at (P := Tryz.prog) wr w.heap.size s p ty hit hd2.1
    rw [hd2.2.1] at hrun
    have HDD := Lib.hid hd2.2.2
    generalize p + (Utf8.decode s p).2 = p' at *
    simp only [List.length_cons] at hb hl
    have hbz : (b : Int) < 256 := by omega
    have hwb : IntKind.i64.wrap ((b : Int) + 1) = ((b + 1 : Nat) : Int) := by rw [wrap_in (by omega) (by omega)]; rfl
    have hT2 : TabC (wr.iterAt w.heap.size s p') g f' := tabC_block hT (iter_other (by omega))
    have hc := RowC.cell hT2 (show b < 256 by omega)
    have hfz := RowC.frozen hT2 b
    have HT2 := Lib.hid hT2
    have HK2 := Lib.hid (keeps_iter (s := s) (p := p') hK (Nat.le_refl _))
    have HIT2 := Lib.hid (Lib.iterAt_heap wr w.heap.size s p p' hit)
    clear he hit hT hK hd' hd2 hT2
    go_wp2_with fail
    refine ⟨⟨b + 1, p', rs', fun j => if j = b then r else f' j, by rfl, by omega, by omega, HDD.out, HE.out, ?_, HT2.out.set b r, HK2.out.trans (Keeps.setCell (fun k => k = g) _ (p := ⟨g, b, none⟩) rfl _) (fun k hk => .inl hk), trivial⟩, by simp [intOf]; omega⟩
    exact (heap_setCell_other _ _ _ _ (by show w.heap.size ≠ g; omega)).trans HIT2.out
def lowB : ByteArray := ⟨#[32, 226, 152, 186, 226, 152, 187, 226, 153, 165, 226, 153, 166, 226, 153, 163, 226, 153, 160, 226, 128, 162, 226, 151, 152, 226, 151, 139, 226, 151, 153, 226, 153, 130, 226, 153, 128, 226, 153, 170, 226, 153, 171, 226, 152, 188, 226, 150, 186, 226, 151, 132, 226, 134, 149, 226, 128, 188, 194, 182, 194, 167, 226, 150, 172, 226, 134, 168, 226, 134, 145, 226, 134, 147, 226, 134, 146, 226, 134, 144, 226, 136, 159, 226, 134, 148, 226, 150, 178, 226, 150, 188]⟩
def lowG : List Int := [32, 9786, 9787, 9829, 9830, 9827, 9824, 8226, 9688, 9675, 9689, 9794, 9792, 9834, 9835, 9788, 9658, 9668, 8597, 8252, 182, 167, 9644, 8616, 8593, 8595, 8594, 8592, 8735, 8596, 9650, 9660]
def highB : ByteArray := ⟨#[226, 140, 130, 195, 135, 195, 188, 195, 169, 195, 162, 195, 164, 195, 160, 195, 165, 195, 167, 195, 170, 195, 171, 195, 168, 195, 175, 195, 174, 195, 172, 195, 132, 195, 133, 195, 137, 195, 166, 195, 134, 195, 180, 195, 182, 195, 178, 195, 187, 195, 185, 195, 191, 195, 150, 195, 156, 194, 162, 194, 163, 194, 165, 226, 130, 167, 198, 146, 195, 161, 195, 173, 195, 179, 195, 186, 195, 177, 195, 145, 194, 170, 194, 186, 194, 191, 226, 140, 144, 194, 172, 194, 189, 194, 188, 194, 161, 194, 171, 194, 187, 226, 150, 145, 226, 150, 146, 226, 150, 147, 226, 148, 130, 226, 148, 164, 226, 149, 161, 226, 149, 162, 226, 149, 150, 226, 149, 149, 226, 149, 163, 226, 149, 145, 226, 149, 151, 226, 149, 157, 226, 149, 156, 226, 149, 155, 226, 148, 144, 226, 148, 148, 226, 148, 180, 226, 148, 172, 226, 148, 156, 226, 148, 128, 226, 148, 188, 226, 149, 158, 226, 149, 159, 226, 149, 154, 226, 149, 148, 226, 149, 169, 226, 149, 166, 226, 149, 160, 226, 149, 144, 226, 149, 172, 226, 149, 167, 226, 149, 168, 226, 149, 164, 226, 149, 165, 226, 149, 153, 226, 149, 152, 226, 149, 146, 226, 149, 147, 226, 149, 171, 226, 149, 170, 226, 148, 152, 226, 148, 140, 226, 150, 136, 226, 150, 132, 226, 150, 140, 226, 150, 144, 226, 150, 128, 206, 177, 195, 159, 206, 147, 207, 128, 206, 163, 207, 131, 194, 181, 207, 132, 206, 166, 206, 152, 206, 169, 206, 180, 226, 136, 158, 207, 134, 206, 181, 226, 136, 169, 226, 137, 161, 194, 177, 226, 137, 165, 226, 137, 164, 226, 140, 160, 226, 140, 161, 195, 183, 226, 137, 136, 194, 176, 226, 136, 153, 194, 183, 226, 136, 154, 226, 129, 191, 194, 178, 226, 150, 160, 194, 160]⟩
def highG : List Int := [8962, 199, 252, 233, 226, 228, 224, 229, 231, 234, 235, 232, 239, 238, 236, 196, 197, 201, 230, 198, 244, 246, 242, 251, 249, 255, 214, 220, 162, 163, 165, 8359, 402, 225, 237, 243, 250, 241, 209, 170, 186, 191, 8976, 172, 189, 188, 161, 171, 187, 9617, 9618, 9619, 9474, 9508, 9569, 9570, 9558, 9557, 9571, 9553, 9559, 9565, 9564, 9563, 9488, 9492, 9524, 9516, 9500, 9472, 9532, 9566, 9567, 9562, 9556, 9577, 9574, 9568, 9552, 9580, 9575, 9576, 9572, 9573, 9561, 9560, 9554, 9555, 9579, 9578, 9496, 9484, 9608, 9604, 9612, 9616, 9600, 945, 223, 915, 960, 931, 963, 181, 964, 934, 920, 937, 948, 8734, 966, 949, 8745, 8801, 177, 8805, 8804, 8992, 8993, 247, 8776, 176, 8729, 183, 8730, 8319, 178, 9632, 160]
theorem low_decs : decs lowB 0 lowG = true := by decide +kernel
theorem high_decs : decs highB 0 highG = true := by decide +kernel
def cpG : Nat → Int := layF (layF asciiG 0 lowG) 127 highG
def OfSet (s : Nat) (f : Nat → Int) : Prop := ∀ w : World, Calls Tryz.prog 100 #[.int .i64 (s : Int)] w fun e w' => e = .returned (.pointer (some ⟨w.heap.size, 0, none⟩)) ∧ TabC w' w.heap.size f ∧ Below w.heap.size w w'
theorem below_keeps_own {B : Nat} {w w1 w2 : World} (h : Below B w w1) {g : Nat} (hg : B ≤ g) (hz : B ≤ w1.heap.size) (k : Keeps (fun j => j = g) w1 w2) : Below B w w2 :=
 ⟨k.os.trans h.os, k.tape.trans h.tape, k.output.trans h.output, Nat.le_trans h.size k.size, fun j hj => (k.block j (by omega) (fun e => by omega)).trans (h.block j hj)⟩
theorem of_cp : OfSet 2 cpG := by
 intro w
 have HA := Lib.hid (ascii_ok w)
 have HL := Lib.hid (fun (W : World) (h : TabC W w.heap.size asciiG) => lay_any w.heap.size 0 lowB lowG asciiG low_decs (by decide) W h)
 have HH := Lib.hid (fun (W : World) (h : TabC W w.heap.size (layF asciiG 0 lowG)) => lay_any w.heap.size 127 highB highG _ high_decs (by decide) W h)
 unfold lowB at HL
 unfold highB at HH
 go_enter Tryz.func100, Tryz.ntmps100
 simp only [List.append_eq, List.cons_append, List.nil_append]
 go_wp2_with (first
  | (go_at_call 128; refine (HH.out _ HT2.out).mono ?_; rintro e w3 ⟨rfl, ht, hk⟩; have HT3 := Lib.hid ht; have HB3 := Lib.hid (below_keeps_own HB2.out (Nat.le_refl _) HB2.out.size hk); clear ht hk)
  | (go_at_call 128; refine (HL.out _ HT1.out).mono ?_; rintro e w2 ⟨rfl, ht, hk⟩; have HT2 := Lib.hid ht; have HB2 := Lib.hid (below_keeps_own HB1.out (Nat.le_refl _) HB1.out.size hk); clear ht hk)
  | (go_at_call 127; refine HA.out.mono ?_; rintro e w1 ⟨rfl, ht, hb⟩; have HT1 := Lib.hid ht; have HB1 := Lib.hid hb; clear ht hb))
 go_ret
 exact ⟨rfl, HT3.out, HB3.out⟩
theorem glyph_of {s : Nat} {f : Nat → Int} (hof : OfSet s f) (b : Nat) (hb : b < 256) (w : World) : Calls Tryz.prog 79 #[.int .i64 (s : Int), .int .u8 (b : Int)] w fun e w' => e = .returned (.int .i32 (f b)) ∧ Below w.heap.size w w' := by
 have HO := Lib.hid (hof w)
 have hb2 : (b : Int) < 256 := by omega
 have hb0 : (0 : Int) ≤ (b : Int) := by omega
 clear hof
 go_enter Tryz.func79, Tryz.ntmps79
 go_wp2_with (go_at_call 100; refine HO.out.mono ?_; rintro e w1 ⟨rfl, ht, hb1⟩; have hcc := RowC.cell ht hb)
 all_goals (
  go_ret
  exact ⟨rfl, hb1⟩)
/-! ### All's iterator -/
end
end Go.Proofs.YtmgeghoalmonoaaGreatDoor
