import Derived.Test.YteoeooijpjehpaaGreatDoorHD
import Derived.Test.YteoeooijpjehpaaGreatDoorHC
import Derived.Lib.OthersKept
import Derived.Test.YteoeooijpjehpaaGreatDoorIG
import Derived.Test.YteoeooijpjehpaaGreatDoorIA
import Derived.Sort.QuietIn

set_option maxRecDepth 100000
set_option maxHeartbeats 16000000
namespace Go.Proofs.YteoeooijpjehpaaGreatDoor
open Go.RowKit
set_option linter.unusedSimpArgs false
set_option linter.unusedVariables false
/- Walks: glyph.Of of the set of capitals: the glyphs of the bytes that are shown. -/
section
attribute [local go_sem] alloc_drewN setCell_drewN World.cell?_alloc_some
def tab0 : Array Value := Array.replicate 256 (.int .i32 0)
theorem run_build_tab (W : World) : (Instr.build 208 #[]).run Tryz.prog W = .ok (.agg tab0) W := by kernel_rfl
theorem run_box_tab (W : World) (c : Array Value) : (Instr.box 208 (.agg c)).run Tryz.prog W = .ok (.pointer (some ⟨W.heap.size, 0, none⟩)) (W.alloc (.cells c 208)) := rfl
theorem run_half_from (W : World) (g : Nat) : (Instr.sliceAt 208 (.pointer (some ⟨g, 0, none⟩)) (some (.int .i64 128)) none none).run Tryz.prog W = .ok (.slice (some ⟨g, 128, none⟩) 128 128) W := by kernel_rfl
theorem run_half_to (W : World) (g : Nat) : (Instr.sliceAt 208 (.pointer (some ⟨g, 0, none⟩)) none (some (.int .i64 128)) none).run Tryz.prog W = .ok (.slice (some ⟨g, 0, none⟩) 128 256) W := by kernel_rfl
theorem addr_add0 (g j : Nat) : (⟨g, 0, none⟩ : Addr).add j = ⟨g, j, none⟩ := by
 unfold Addr.add
 split
 · rename_i h; rw [h]
 · simp
attribute [local go_sem 3000] run_build_tab run_box_tab run_half_from run_half_to
def asciiG (i : Nat) : Int := if 32 ≤ i ∧ i ≤ 126 then (i : Int) else 65533
def TabC (W : World) (g : Nat) (f : Nat → Int) : Prop := RowC W g 208 256 256 (fun j => .int .i32 (f j))
theorem TabC.set {W : World} {g : Nat} {f : Nat → Int} (h : TabC W g f) (i : Nat) (x : Int) : TabC (W.setCell ⟨g, i, none⟩ (.int .i32 x)) g (fun j => if j = i then x else f j) :=
 (RowC.set h i (.int .i32 x)).congr fun j _ => by by_cases e : j = i <;> simp [e]
theorem TabC.congr {W : World} {g : Nat} {f f' : Nat → Int} (h : TabC W g f) (e : ∀ i, i < 256 → f i = f' i) : TabC W g f' := RowC.congr h fun i hi => by rw [e i hi]
theorem tab_new (w : World) : TabC (w.alloc (.cells tab0 208)) w.heap.size (fun _ => 0) :=
 ⟨tab0, heap_alloc_new _ _, by simp [tab0], Nat.le_refl _, fun i hi => by simp [tab0, hi]⟩
theorem ascii_ok (w : World) : Calls Tryz.prog 164 #[] w fun e w' => e = .returned (.pointer (some ⟨w.heap.size, 0, none⟩)) ∧ TabC w' w.heap.size asciiG ∧ Below w.heap.size w w' := by
 go_enter Tryz.func164, Tryz.ntmps164
 go_wp2_with fail
 go_loopw [5] (fun i wr => ∃ k : Nat, k ≤ 256 ∧ i = .int .i64 k ∧ TabC wr w.heap.size (fun j => if j < k then asciiG j else 0) ∧ Below w.heap.size w wr) (fun i _ => 256 - (intOf i).toNat)
 case atStart => exact ⟨0, by decide, rfl, (tab_new w).congr fun i _ => by simp, below1 _ _⟩
 case round =>
  obtain ⟨k, hk, rfl, hT, hb⟩ := hrel
  by_cases hlt : k < 256
  · have hz : (k : Int) < 256 := by omega
    have hc := RowC.cell hT hlt
    have hfz := RowC.frozen hT k
    have HT := Lib.hid hT
    have HB := Lib.hid hb
    clear hT hb
    have hw0 : IntKind.i32.wrap (k : Int) = (k : Int) := by simp [IntKind.wrap, IntKind.bits, IntKind.signed]; omega
    have hstep : ∀ x, x = asciiG k → ∀ W, TabC W w.heap.size (fun j => if j = k then x else if j < k then asciiG j else 0) → TabC W w.heap.size (fun j => if j < k + 1 then asciiG j else 0) := fun x hx W h => h.congr fun i hi => by
     by_cases e : i = k
     · subst e; simp [hx]
     · by_cases e2 : i < k
       · simp [e, e2, show i < k + 1 by omega]
       · simp [e, e2, show ¬ i < k + 1 by omega]
    by_cases h1 : 32 ≤ k
    · by_cases h2 : k ≤ 126
      · have z1 : (32 : Int) ≤ (k : Int) := by omega
        have z2 : (k : Int) ≤ 126 := by omega
        go_wp2_with fail
        refine ⟨⟨k + 1, by omega, by go_num, hstep (k : Int) (by unfold asciiG; rw [if_pos ⟨h1, h2⟩]) _ (((HT.out.set k 65533).set k (k : Int)).congr fun i hi => by by_cases e : i = k <;> simp [e]), (HB.out.setCell (p := ⟨w.heap.size, k, none⟩) (Nat.le_refl _) _).setCell (p := ⟨w.heap.size, k, none⟩) (Nat.le_refl _) _⟩, by simp [intOf]; omega⟩
      · have z1 : (32 : Int) ≤ (k : Int) := by omega
        have z2 : ¬ (k : Int) ≤ 126 := by omega
        go_wp2_with fail
        refine ⟨⟨k + 1, by omega, by go_num, hstep 65533 (by unfold asciiG; rw [if_neg (by omega)]) _ (HT.out.set k 65533), HB.out.setCell (p := ⟨w.heap.size, k, none⟩) (Nat.le_refl _) _⟩, by simp [intOf]; omega⟩
    · have z1 : ¬ (32 : Int) ≤ (k : Int) := by omega
      go_wp2_with fail
      refine ⟨⟨k + 1, by omega, by go_num, hstep 65533 (by unfold asciiG; rw [if_neg (by omega)]) _ (HT.out.set k 65533), HB.out.setCell (p := ⟨w.heap.size, k, none⟩) (Nat.le_refl _) _⟩, by simp [intOf]; omega⟩
  · obtain rfl : k = 256 := by omega
    have HT := Lib.hid hT
    have HB := Lib.hid hb
    clear hT hb
    go_wp2_with fail
    go_ret
    exact ⟨rfl, HT.out.congr fun i hi => by simp [hi], HB.out⟩
end
section
attribute [local go_sem] alloc_drewN setCell_drewN World.cell?_alloc_some
def decs (s : ByteArray) (p : Nat) : List Int → Bool
 | [] => decide (¬ p < s.size)
 | r :: rs => decide (p < s.size) && (decide (((Utf8.decode s p).1 : Int) = r) && decs s (p + (Utf8.decode s p).2) rs)
def layF (f : Nat → Int) (a : Nat) : List Int → Nat → Int
 | [] => f
 | r :: rs => layF (fun j => if j = a then r else f j) (a + 1) rs
theorem tabC_block {W W' : World} {g : Nat} {f : Nat → Int} (h : TabC W g f) (e : W'.heap[g]? = W.heap[g]?) : TabC W' g f := by
 obtain ⟨c, hc, r⟩ := h
 exact ⟨c, e.trans hc, r⟩
theorem tabC_lt {W : World} {g : Nat} {f : Nat → Int} (h : TabC W g f) : g < W.heap.size := by
 obtain ⟨c, hc, r⟩ := h
 exact block_lt hc
theorem keeps_iter {F : Nat → Prop} {w W : World} {k p : Nat} {s : ByteArray} (h : Keeps F w W) (hk : w.heap.size ≤ k) : Keeps F w (W.iterAt k s p) := by
 refine ⟨h.os, h.tape, h.output, ?_, fun j hj hn => ?_⟩
 · show w.heap.size ≤ (W.heap.setIfInBounds k _).size
   rw [Array.size_setIfInBounds]
   exact h.size
 · show (W.heap.setIfInBounds k _)[j]? = _
   rw [Array.getElem?_setIfInBounds, if_neg (by omega)]
   exact h.block j hj hn
theorem iter_other {W : World} {k p g : Nat} {s : ByteArray} (hk : g ≠ k) : (W.iterAt k s p).heap[g]? = W.heap[g]? := by
 show (W.heap.setIfInBounds k _)[g]? = _
 rw [Array.getElem?_setIfInBounds, if_neg (Ne.symm hk)]
theorem lay_any (g a : Nat) (s : ByteArray) (rs : List Int) (f : Nat → Int) (hd : decs s 0 rs = true) (ha : a + rs.length ≤ 256) (w : World) (h : TabC w g f) :
 Calls Tryz.prog 165 #[.pointer (some ⟨g, 0, none⟩), .int .i64 a, .string s] w fun e w' => e = .returned (.tuple #[]) ∧ TabC w' g (layF f a rs) ∧ Keeps (fun k => k = g) w w' := by
 have hg := tabC_lt h
 have HD := Lib.hid hd
 have H := Lib.hid h
 clear hd h
 go_enter Tryz.func165, Tryz.ntmps165
 go_wp2_with fail
 go_loopw [1] (fun v wr => ∃ (b p : Nat) (rs' : List Int) (f' : Nat → Int), v = .int .i64 b ∧ b + rs'.length ≤ 256 ∧ rs'.length ≤ rs.length ∧ decs s p rs' = true ∧ layF f' b rs' = layF f a rs ∧ wr.heap[w.heap.size]? = some (.stringIter s p) ∧ TabC wr g f' ∧ Keeps (fun k => k = g) w wr ∧ True) (fun v _ => 256 - (intOf v).toNat)
 case atStart => exact ⟨a, 0, rs, f, rfl, ha, Nat.le_refl _, HD.out, rfl, heap_alloc_new w _, tabC_block H.out (Below.heap_alloc w _ _ hg), (Keeps.refl _ w).alloc _, trivial⟩
 case round =>
  obtain ⟨b, p, rs', f', rfl, hb, hl, hd', he, hit, hT, hK, -⟩ := hrel
  have HE := Lib.hid he
  have HIT := Lib.hid hit
  have HT := Lib.hid hT
  have HK := Lib.hid hK
  cases rs' with
  | nil =>
    have hp : ¬ p < s.size := by simpa [decs] using hd'
    have hrun := fun ty => Lib.run_next_end_at (P := Tryz.prog) wr w.heap.size s p ty hit hp
    clear he hit hT hK hd'
    go_wp2_with fail
    go_end0
    exact ⟨rfl, by rw [← HE.out]; exact HT.out, HK.out⟩
  | cons r rs' =>
    have hd2 : p < s.size ∧ ((Utf8.decode s p).1 : Int) = r ∧ decs s (p + (Utf8.decode s p).2) rs' = true := by simpa [decs] using hd'
    have hrun := fun ty => Lib.run_next_any_at (P := Tryz.prog) wr w.heap.size s p ty hit hd2.1
    rw [hd2.2.1] at hrun
    have HDD := Lib.hid hd2.2.2
    generalize p + (Utf8.decode s p).2 = p' at *
    simp only [List.length_cons] at hb hl
    have hbz : (b : Int) < 256 := by omega
    have hwb : IntKind.i64.wrap ((b : Int) + 1) = ((b + 1 : Nat) : Int) := by rw [wrap_in (by omega) (by omega)]; rfl
    have hT2 : TabC (wr.iterAt w.heap.size s p') g f' := tabC_block hT (iter_other (by omega))
    have hc := RowC.cell hT2 (show b < 256 by omega)
    have hfz := RowC.frozen hT2 b
    have HT2 := Lib.hid hT2
    have HK2 := Lib.hid (keeps_iter (s := s) (p := p') hK (Nat.le_refl _))
    have HIT2 := Lib.hid (Lib.iterAt_heap wr w.heap.size s p p' hit)
    clear he hit hT hK hd' hd2 hT2
    go_wp2_with fail
    refine ⟨⟨b + 1, p', rs', fun j => if j = b then r else f' j, by rfl, by omega, by omega, HDD.out, HE.out, ?_, HT2.out.set b r, HK2.out.trans (Keeps.setCell (fun k => k = g) _ (p := ⟨g, b, none⟩) rfl _) (fun k hk => .inl hk), trivial⟩, by simp [intOf]; omega⟩
    exact (heap_setCell_other _ _ _ _ (by show w.heap.size ≠ g; omega)).trans HIT2.out
end
section
attribute [local go_sem] alloc_drewN setCell_drewN World.cell?_alloc_some frozen_alloc_some Oper.semAt_some
def linesB : ByteArray := ⟨#[226, 148, 172, 226, 148, 148, 226, 148, 140, 226, 148, 144, 226, 148, 156, 226, 148, 152, 226, 148, 130, 226, 150, 136, 226, 148, 188, 226, 148, 164, 226, 148, 128, 226, 150, 146, 226, 149, 144, 226, 148, 180, 226, 149, 145, 226, 150, 145]⟩
theorem lines_decs : decs linesB 0 linesG = true := by decide +kernel
theorem layF_at (rs : List Int) : ∀ (f : Nat → Int) (a j : Nat), layF f a rs j = if a ≤ j ∧ j < a + rs.length then rs[j - a]?.getD 0 else f j := by
 induction rs with
 | nil =>
   intro f a j
   rw [if_neg (by simp)]
   rfl
 | cons r rs ih =>
   intro f a j
   show layF (fun i => if i = a then r else f i) (a + 1) rs j = _
   rw [ih]
   simp only [List.length_cons]
   by_cases h : j = a
   · subst h
     rw [if_neg (by omega), if_pos rfl, if_pos (by omega), Nat.sub_self]
     rfl
   · by_cases h2 : a + 1 ≤ j ∧ j < a + 1 + rs.length
     · rw [if_pos h2, if_pos (by omega)]
       obtain ⟨k, hk⟩ : ∃ k, j - a = k + 1 := ⟨j - a - 1, by omega⟩
       rw [hk, show j - (a + 1) = k by omega, List.getElem?_cons_succ]
     · rw [if_neg h2, if_neg h, if_neg (by omega)]
theorem plainG_eq : asciiG = plainG := rfl
theorem wyseG_eq : layF plainG 48 linesG = wyseG := by
 funext j
 rw [layF_at]
 rfl
def OfSet (s : Nat) (f : Nat → Int) : Prop := ∀ w : World, Calls Tryz.prog 130 #[.int .i64 (s : Int)] w fun e w' => e = .returned (.pointer (some ⟨w.heap.size, 0, none⟩)) ∧ TabC w' w.heap.size f ∧ Below w.heap.size w w'
theorem of_plain : OfSet 1 plainG := by
 intro w
 have HA := Lib.hid (ascii_ok w)
 go_enter Tryz.func130, Tryz.ntmps130
 go_wp2_with (go_at_call 164; refine HA.out.mono ?_; rintro e w1 ⟨rfl, ht, hb⟩; have HT1 := Lib.hid ht; have HB1 := Lib.hid hb; clear ht hb)
 go_ret
 exact ⟨rfl, by rw [← plainG_eq]; exact HT1.out, HB1.out⟩
theorem below_keeps_own {B : Nat} {w w1 w2 : World} (h : Below B w w1) {g : Nat} (hg : B ≤ g) (hz : B ≤ w1.heap.size) (k : Keeps (fun j => j = g) w1 w2) : Below B w w2 :=
 ⟨k.os.trans h.os, k.tape.trans h.tape, k.output.trans h.output, Nat.le_trans h.size k.size, fun j hj => (k.block j (by omega) (fun e => by omega)).trans (h.block j hj)⟩
theorem of_wyse : OfSet 4 wyseG := by
 intro w
 have HA := Lib.hid (ascii_ok w)
 have HL := Lib.hid (fun (W : World) (h : TabC W w.heap.size asciiG) => lay_any w.heap.size 48 linesB linesG asciiG lines_decs (by decide) W h)
 unfold linesB at HL
 go_enter Tryz.func130, Tryz.ntmps130
 go_wp2_with (first
  | (go_at_call 164; refine HA.out.mono ?_; rintro e w1 ⟨rfl, ht, hb⟩; have HT1 := Lib.hid ht; have HB1 := Lib.hid hb; clear ht hb)
  | (go_at_call 165; refine (HL.out _ HT1.out).mono ?_; rintro e w2 ⟨rfl, ht, hk⟩; have HT2 := Lib.hid ht; have HB2 := Lib.hid (below_keeps_own HB1.out (Nat.le_refl _) HB1.out.size hk); clear ht hk))
 go_ret
 exact ⟨rfl, by rw [← wyseG_eq, ← plainG_eq]; exact HT2.out, HB2.out⟩
theorem glyph_of {s : Nat} {f : Nat → Int} (hof : OfSet s f) (b : Nat) (hb : b < 256) (w : World) : Calls Tryz.prog 92 #[.int .i64 (s : Int), .int .u8 (b : Int)] w fun e w' => e = .returned (.int .i32 (f b)) ∧ Below w.heap.size w w' := by
 have HO := Lib.hid (hof w)
 have hb2 : (b : Int) < 256 := by omega
 have hb0 : (0 : Int) ≤ (b : Int) := by omega
 clear hof
 go_enter Tryz.func92, Tryz.ntmps92
 go_wp2_with (go_at_call 130; refine HO.out.mono ?_; rintro e w1 ⟨rfl, ht, hb1⟩; have hcc := RowC.cell ht hb)
 all_goals (
  go_ret
  exact ⟨rfl, hb1⟩)
/-! ### All's iterator -/
def gV (f : Nat → Int) (x : Nat) : Array Value := #[.int .u8 (x : Int), .int .i32 (f x)]
def glF (f : Nat → Int) (k : Nat) : Nat → List Nat
 | 0 => []
 | n + 1 => (if f k = 65533 then [] else [k]) ++ glF f (k + 1) n
theorem glF_eq (f : Nat → Int) : ∀ n k, glF f k n = (List.range' k n).filter fun i => decide (f i ≠ 65533)
 | 0, k => rfl
 | n + 1, k => by
   show (if f k = 65533 then [] else [k]) ++ glF f (k + 1) n = _
   rw [glF_eq f n (k + 1), List.range'_succ, List.filter_cons]
   by_cases h : f k = 65533
   · rw [if_pos h, if_neg (by simp [h])]
     rfl
   · rw [if_neg h, if_pos (by simp [h])]
     rfl
theorem backG_eq (f : Nat → Int) (g : Int) : backG f g = (glF f 0 256).find? fun i => decide (f i = g) := by
 rw [glF_eq, List.find?_filter, ← List.range_eq_range']
 unfold backG
 congr 1
 funext i
 rw [Bool.eq_iff_iff]
 simp
theorem backG_lt {f : Nat → Int} {g : Int} {i : Nat} (h : backG f g = some i) : i < 256 := List.mem_range.1 (List.mem_of_find?_eq_some h)
theorem tabC_kp {W W' : World} {g B : Nat} {f : Nat → Int} (h : TabC W g f) (hB : B ≤ g) (k : KpC B W W') : TabC W' g f := by
 obtain ⟨c, hc, r⟩ := h
 exact ⟨c, k _ _ _ _ hB hc, r⟩
def GlyG (rb s : Nat) (W : World) : Prop := W.heap[rb]? = some (.cells #[.int .i64 (s : Int)] 3 (0, 0))
theorem glF_succ (f : Nat → Int) (k n : Nat) : glF f k (n + 1) = (if f k = 65533 then [] else [k]) ++ glF f (k + 1) n := rfl
theorem gall_in (n : Nat) (hn : 1 ≤ n) (l rb B s : Nat) (f : Nat → Int) (hof : OfSet s f) (J Jx : List Nat → World → Prop) (hJ : ∀ p A, J p A → GlyG rb s A)
 (hY : ∀ pre x W, J pre W → pre ++ [x] <+: glF f 0 256 → YieldAt Fence.wide (n - 1) Tryz.prog l (gV f x) W fun e W' => (e = .returned (.bool true) ∧ J (pre ++ [x]) W' ∧ KpC B W W') ∨ (e = .returned (.bool false) ∧ Jx (pre ++ [x]) W'))
 (W : World) (hB : B ≤ W.heap.size) (hAb : AbidesFrom W.heap.size J) (h0 : J [] W) : CallsIn Fence.wide n Tryz.prog 261 #[.func (.yield l) #[] #[], .pointer (some ⟨rb, 0, none⟩)] W fun e W' => (∃ v, e = .returned v) ∧ ((∃ ys, ys = glF f 0 256 ∧ J ys W') ∨ (∃ pre, pre <+: glF f 0 256 ∧ Jx pre W')) := by
 have HO := Lib.hid (hof W)
 have HAB : Hid (∀ s A A', J s A → Below A.heap.size A A' → J s A') := fun s A A' hj hb => hAb s A A' none hj (grown_of_below hb) (fun r e => by cases e)
 have HDR : Hid (∀ s, ∀ {A : World}, J s A → ∀ m, J s (A.drewN m)) := fun s A hj m => hAb s A _ none hj (grown_of_below (Below.draws (Below.refl _ _) m)) (fun r e => by cases e)
 have H0 := Lib.hid h0
 have HBB := Lib.hid hB
 have HY := Lib.hid (fun (pre : List Nat) (x : Nat) (W : World) h hp => yield_wide (m' := n - 1) (hY pre x W h hp))
 have r0 : W.cell? ⟨rb, 0, none⟩ = some (.int .i64 (s : Int)) := cell_row (hJ _ _ h0) 0
 clear hJ hY h0 hB hAb hof
 refine callsIn_of_wp Tryz.func261 rfl trivial ?_ rfl
 simp only [Tryz.ntmps261, List.size_toArray, List.length_cons, List.length_nil, Nat.reduceAdd, Nat.reduceSub, Array.replicate_succ, Array.replicate_zero, List.push_toArray, List.append_toArray, List.nil_append, List.cons_append]
 gi_wp2_with (refine ⟨trivial, ?_⟩; gi_at_call 130; refine (callsIn_wide.2 HO.out).mono ?_; rintro e w1 ⟨rfl, ht, hb⟩; have HT1 := Lib.hid ht; have HJ1 := Lib.hid (HAB.out _ _ _ H0.out hb); clear ht hb)
 gi_loopw [7] (fun i wr => ∃ (k : Nat) (pre : List Nat), k ≤ 256 ∧ i = .int .i64 (k : Int) ∧ pre ++ glF f k (256 - k) = glF f 0 256 ∧ J pre wr ∧ TabC wr W.heap.size f) (fun i _ => 256 - (intOf i).toNat)
 case atStart => exact ⟨0, [], Nat.zero_le _, rfl, rfl, HJ1.out, HT1.out⟩
 case round =>
  obtain ⟨k, pre, hk, rfl, heq, hj, hT⟩ := hrel
  by_cases hlt : k < 256
  · have hkz : (k : Int) < 256 := by omega
    have hk0 : (0 : Int) ≤ (k : Int) := by omega
    have hw8 : IntKind.u8.wrap (k : Int) = (k : Int) := by simp [IntKind.wrap, IntKind.bits, IntKind.signed]; omega
    have hwk : IntKind.i64.wrap ((k : Int) + 1) = ((k + 1 : Nat) : Int) := by rw [wrap_in (by omega) (by omega)]; rfl
    have hc := RowC.cell hT hlt
    obtain ⟨m, hm⟩ : ∃ m, 256 - k = m + 1 := ⟨255 - k, by omega⟩
    have hm2 : 256 - (k + 1) = m := by omega
    rw [hm, glF_succ] at heq
    have HT := Lib.hid hT
    have HJJ := Lib.hid hj
    by_cases hf : f k = 65533
    · rw [if_pos hf] at heq
      have HEQ := Lib.hid (show pre ++ glF f (k + 1) (256 - (k + 1)) = glF f 0 256 by rw [hm2]; exact heq)
      rw [hf] at hc
      clear heq hm hm2 hT hj r0
      gi_wp2
      gi_quiet (fail)
      gi_wp2
      refine ⟨fun f h => (by cases h), ?_⟩
      gi_wp2
      exact ⟨⟨k + 1, pre, by omega, rfl, HEQ.out, HDR.out _ HJJ.out nq, tabC_block HT.out rfl⟩, by simp [intOf]; omega⟩
    · rw [if_neg hf] at heq
      have heq2 : (pre ++ [k]) ++ glF f (k + 1) m = glF f 0 256 := by rw [List.append_assoc]; exact heq
      have hpre : pre ++ [k] <+: glF f 0 256 := ⟨_, heq2⟩
      have HPRE := Lib.hid hpre
      have HEQ := Lib.hid (show (pre ++ [k]) ++ glF f (k + 1) (256 - (k + 1)) = glF f 0 256 by rw [hm2]; exact heq2)
      have HYY := Lib.hid (fun nq => HY.out pre k (wr.drewN nq) (HDR.out _ hj nq) hpre)
      have HT' : Hid (∀ nq, TabC (wr.drewN nq) W.heap.size f) := fun nq => tabC_block hT rfl
      unfold gV at HYY
      generalize hfk : f k = fk at *
      have hfb : (fk != 65533) = true := by simp [hf]
      clear heq heq2 hpre hm hm2 hT hj r0 HJJ HT hfk
      gi_wp2
      gi_quiet (fail)
      have HT := Lib.hid (HT'.out nq)
      obtain ⟨fn, tmps, assign, body, hy, hR⟩ := HYY.out nq
      have HR := Lib.hid hR
      clear hR
      gi_wp2
      refine HR.out.mono ?_
      rintro e W6 (⟨rfl, hJ6, hK6⟩ | ⟨rfl, hX6⟩)
      · have HJ6 := Lib.hid hJ6
        have HT6 := Lib.hid (tabC_kp HT.out HBB.out hK6)
        clear hJ6 hK6
        gi_wp2
        exact ⟨⟨k + 1, _, by omega, rfl, HEQ.out, HJ6.out, HT6.out⟩, by simp [intOf]; omega⟩
      · have HX6 := Lib.hid hX6
        clear hX6
        gi_wp2
        exact bodyPost_ret (results_none rfl _ _ _) rfl ⟨⟨_, rfl⟩, .inr ⟨_, HPRE.out, HX6.out⟩⟩
  · obtain rfl : k = 256 := by omega
    rw [Nat.sub_self] at heq
    have heq2 : pre = glF f 0 256 := by
     have : pre ++ [] = glF f 0 256 := heq
     rwa [List.append_nil] at this
    have HJJ := Lib.hid hj
    have HEQ := Lib.hid heq2
    clear hj heq heq2
    gi_wp2
    go_end0
    exact ⟨⟨_, rfl⟩, .inl ⟨pre, HEQ.out, HJJ.out⟩⟩
theorem gall_stops (n : Nat) (hn : 1 ≤ n) (rb s : Nat) (f : Nat → Int) (hof : OfSet s f) (B : Nat) (w : World) (hB : B ≤ w.heap.size) :
 SeqStopsT Fence.wide n Tryz.prog 261 #[.pointer (some ⟨rb, 0, none⟩)] (gV f) (KpC B) (fun ys => ys = glF f 0 256) (fun pre => pre <+: glF f 0 256) (fun pre x _ => pre ++ [x] <+: glF f 0 256) (GlyG rb s) w :=
 fun l J Jx W hW hAb _ hJ hY h0 => gall_in n hn l rb B s f hof J Jx hJ hY W (Nat.le_trans hB hW.size) hAb h0
theorem gall_any (s : Nat) (w : World) : Calls Tryz.prog 250 #[.int .i64 (s : Int)] w fun e w' => e = .returned (.func (.func 261) #[] #[.pointer (some ⟨w.heap.size, 0, none⟩)]) ∧ w' = w.alloc (.cells #[.int .i64 (s : Int)] 3) := by
 have hmf : ∀ (fn : Fn) (first cap : Array Value) (w : World), (Instr.makeFunc fn first cap).run Tryz.prog w = .ok (.func fn first cap) w := fun _ _ _ _ => rfl
 go_enter Tryz.func250, Tryz.ntmps250
 go_wp2_with fail
 go_ret
 exact ⟨rfl, rfl⟩
/-! ### Back, and wyse.of -/
def backR (o : Option Nat) : Value :=
 match o with
 | none => .tuple #[.int .u8 0, .bool false]
 | some x => .tuple #[.int .u8 (x : Int), .bool true]
theorem back_in (n : Nat) (hn : 3 ≤ n) {s : Nat} {f : Nat → Int} (hof : OfSet s f) (g : Int) (w : World) :
 CallsIn Fence.wide n Tryz.prog 220 #[.int .i64 (s : Int), .int .i32 g] w fun e w' => e = .returned (backR (backG f g)) ∧ Below w.heap.size w w' := by
 have h1 : 1 ≤ n := by omega
 have HOF := Lib.hid hof
 obtain ⟨n0, n1, n2, nb⟩ := box3 (Below.refl (((w.alloc (.cells #[.int .i32 g] 21)).alloc (.cells #[.int .u8 0] 5)).alloc (.cells #[.bool false] 4)).heap.size (((w.alloc (.cells #[.int .i32 g] 21)).alloc (.cells #[.int .u8 0] 5)).alloc (.cells #[.bool false] 4)))
 have hz3 : (((w.alloc (.cells #[.int .i32 g] 21)).alloc (.cells #[.int .u8 0] 5)).alloc (.cells #[.bool false] 4)).heap.size = w.heap.size + 1 + 1 + 1 := by simp
 have HAL := Lib.hid (fun W' => gall_any s W')
 have HN := Lib.hid (show _ ∧ _ ∧ _ ∧ _ from ⟨n0, n1, n2, nb⟩)
 have HZ3 := Lib.hid hz3
 rw [backG_eq]
 obtain ⟨φ, hφ⟩ : ∃ φ : Nat → Bool, φ = fun i => decide (f i = g) := ⟨_, rfl⟩
 rw [← hφ]
 have HPH := Lib.hid hφ
 clear hof n0 n1 n2 nb hz3 hφ
 refine callsIn_of_wp_marks Tryz.func220 rfl trivial ?_ rfl
 simp only [Tryz.ntmps220, List.size_toArray, List.length_cons, List.length_nil, Nat.reduceAdd, Nat.reduceSub, Array.replicate_succ, Array.replicate_zero, List.push_toArray, List.append_toArray, List.nil_append, List.cons_append]
 gi_wp2_with (refine ⟨trivial, ?_⟩; gi_at_call 250; refine (callsIn_wide.2 (HAL.out _)).mono ?_; rintro e w6 ⟨rfl, hw6⟩; have HW6 := Lib.hid hw6; clear hw6)
 obtain ⟨n0, n1, n2, nb⟩ := HN.out
 have hb6 : Below (((w.alloc (.cells #[.int .i32 g] 21)).alloc (.cells #[.int .u8 0] 5)).alloc (.cells #[.bool false] 4)).heap.size (((w.alloc (.cells #[.int .i32 g] 21)).alloc (.cells #[.int .u8 0] 5)).alloc (.cells #[.bool false] 4)) w6 := by rw [HW6.out]; exact below1 _ _
 have hz6 : w6.heap.size = w.heap.size + 1 + 1 + 1 + 1 := by rw [HW6.out]; simp
 have n3 : w6.heap[w.heap.size + 1 + 1 + 1]? = some (.cells #[.int .i64 (s : Int)] 3 (0, 0)) := by
  rw [HW6.out, ← HZ3.out]
  exact heap_alloc_new _ _
 have n0 := (hb6.block _ (by rw [HZ3.out]; omega)).trans n0
 have n1 := (hb6.block _ (by rw [HZ3.out]; omega)).trans n1
 have n2 := (hb6.block _ (by rw [HZ3.out]; omega)).trans n2
 have nb := Below.later nb hb6 nb.size
 have HZ6 := Lib.hid hz6
 clear hb6 hz6 HAL HN
 refine wpIn_rangeFunc_T rfl h1 (gf := 261) (lb := #[.pointer (some ⟨w.heap.size + 1 + 1 + 1, 0, none⟩)]) rfl trivial (enters_of Tryz.func261 (by kernel_rfl) rfl)
  (gall_stops (n - 1) (by omega) (w.heap.size + 1 + 1 + 1) s f HOF.out w6.heap.size w6 (Nat.le_refl _)) (fun h k => h.trans k) (fun W l o o' _ hl ho _ => KpC.putObj W l o o' hl ho) (Below.refl _ _) (fun _ => rfl)
  (fun pre W => GlyG (w.heap.size + 1 + 1 + 1) s W ∧ W.heap[w.heap.size]? = some (.cells #[.int .i32 g] 21 (0, 0)) ∧ W.heap[w.heap.size + 1]? = some (.cells #[.int .u8 0] 5 (0, 0)) ∧ W.heap[w.heap.size + 1 + 1]? = some (.cells #[.bool false] 4 (0, 0)) ∧ Below w.heap.size w W ∧ pre.find? φ = none)
  (fun c pre W => c = .ret ∧ ∃ x : Nat, pre.find? φ = some x ∧ W.heap[w.heap.size + 1]? = some (.cells #[.int .u8 (x : Int)] 5 (0, 0)) ∧ W.heap[w.heap.size + 1 + 1]? = some (.cells #[.bool true] 4 (0, 0)) ∧ Below w.heap.size w W)
  ?hI ?hIx ?hT ?hGd ?h0
  (fun x b => { tmps := #[.int .i64 (s : Int), .int .i32 g, undef, .pointer (some ⟨w.heap.size, 0, none⟩), .pointer (some ⟨w.heap.size + 1, 0, none⟩), .pointer (some ⟨w.heap.size + 1 + 1, 0, none⟩), .int .u8 (x : Int), .int .i32 (f x), .int .i64 (s : Int), .func (.func 261) #[] #[.pointer (some ⟨w.heap.size + 1 + 1 + 1, 0, none⟩)], .int .u8 (x : Int), .int .i32 (f x), undef, undef, undef, undef], defers := [] })
  (fun _ W => W) (fun _ _ _ => True)
  (fun x W => grown_of_below (Below.refl _ _)) (fun x W => KpC.of_below (Below.refl _ _)) (fun x W => trivial) (fun p A B row h hg hr => trivial) ?assign ?body ?done ?stop
 case hI =>
  rintro pre X Y rw ⟨i9, i0, i1, i2, hB, hf⟩ hgr hrow
  exact ⟨cells_kept hgr hrow i9, cells_kept hgr hrow i0, cells_kept hgr hrow i1, cells_kept hgr hrow i2, below_own (by rw [HZ6.out]; omega) hB hgr hrow, hf⟩
 case hIx =>
  rintro c pre X Y rw ⟨hc, x, hx, i1, i2, hB⟩ hgr hrow
  exact ⟨hc, x, hx, cells_kept hgr hrow i1, cells_kept hgr hrow i2, below_own (by rw [HZ6.out]; omega) hB hgr hrow⟩
 case hT => exact fun p A B row h _ _ => h
 case hGd => exact fun s A h => h.1
 case h0 => exact ⟨n3, n0, n1, n2, nb, rfl⟩
 case assign =>
  intro l x W K hK
  unfold gV at *
  generalize f x = fx at *
  gi_wp2
  exact hK
 case body =>
  rintro l pre x b W hb ⟨i9, i0, i1, i2, hB, hfd⟩ hpre _
  have hfs := find_end (q := x) hfd
  have HFS : Hid (φ x = true → (pre ++ [x]).find? φ = some x) := fun k => by rw [hfs, if_pos k]
  have HFN : Hid (φ x = false → (pre ++ [x]).find? φ = none) := fun k => by rw [hfs, if_neg (by rw [k]; decide)]
  have HI := Lib.hid (show _ ∧ _ ∧ _ ∧ _ ∧ _ from ⟨i9, i0, i1, i2, hB⟩)
  have g0 : W.cell? ⟨w.heap.size, 0, none⟩ = some (.int .i32 g) := cell_row i0 0
  have g1 : W.cell? ⟨w.heap.size + 1, 0, none⟩ = some (.int .u8 0) := cell_row i1 0
  have g2 : W.cell? ⟨w.heap.size + 1 + 1, 0, none⟩ = some (.bool false) := cell_row i2 0
  have fg1 := frozen_row i1 0
  have fg2 := frozen_row i2 0
  clear i9 i0 i1 i2 hB hfd hpre hfs n0 n1 n2 n3 nb
  generalize hQP : ownPostG _ _ _ _ _ _ = QP
  have HQP := Lib.hid hQP
  clear hQP
  have HPX := Lib.hid (show φ x = decide (f x = g) by rw [HPH.out])
  generalize hfx : f x = fx at *
  by_cases hg : fx = g
  · have hpx : φ x = true := by rw [HPX.out]; exact decide_eq_true hg
    have HPT := Lib.hid (HFS.out hpx)
    clear hpx HFS HFN hfx
    subst hg
    gi_wp2
    obtain ⟨i9, i0, i1, i2, hB⟩ := HI.out
    rw [← HQP.out]
    clear g0 g1 g2 fg1 fg2
    refine ⟨Keeps.from (F := fun k => k = w.heap.size + 1 ∨ k = w.heap.size + 1 + 1) (((Keeps.refl _ W).setCell' (p := ⟨w.heap.size + 1, 0, none⟩) (.inl rfl) _).setCell' (p := ⟨w.heap.size + 1 + 1, 0, none⟩) (.inr rfl) _) (fun k hk => by rw [HZ6.out]; omega), rfl, x, HPT.out, ?_, ?_, ?_⟩
    · exact (heap_setCell_other _ _ _ _ (by show w.heap.size + 1 ≠ _; simp)).trans (set_one i1 _)
    · exact set_one ((heap_setCell_other _ _ _ _ (by show w.heap.size + 1 + 1 ≠ _; simp)).trans i2) _
    · exact (hB.setCell (p := ⟨w.heap.size + 1, 0, none⟩) (by show w.heap.size ≤ w.heap.size + 1; omega) _).setCell (p := ⟨w.heap.size + 1 + 1, 0, none⟩) (by show w.heap.size ≤ w.heap.size + 1 + 1; omega) _
  · have hpx : φ x = false := by rw [HPX.out]; exact decide_eq_false hg
    have HPT := Lib.hid (HFN.out hpx)
    clear hpx HFS HFN hfx
    gi_wp2
    obtain ⟨i9, i0, i1, i2, hB⟩ := HI.out
    rw [← HQP.out]
    exact ⟨(Keeps.refl (fun _ => False) W).from (fun k hk => hk.elim), KpC.of_below (Below.refl _ _), i9, i0, i1, i2, hB, HPT.out⟩
 case done =>
  rintro E ys W hE rfl ⟨i9, i0, i1, i2, hB, hfd⟩ hK
  have HON := Lib.hid (show backR ((glF f 0 256).find? φ) = .tuple #[.int .u8 0, .bool false] from by rw [hfd]; rfl)
  have hE' : w.heap.size + 1 + 1 + 1 + 1 ≤ E := by rw [HZ6.out] at hE; exact hE
  have HB7 := Lib.hid hB
  have HK := Lib.hid hK
  have HI1 := Lib.hid i1
  have HI2 := Lib.hid i2
  have g1 : W.cell? ⟨w.heap.size + 1, 0, none⟩ = some (.int .u8 0) := cell_row i1 0
  have g2 : W.cell? ⟨w.heap.size + 1 + 1, 0, none⟩ = some (.bool false) := cell_row i2 0
  have fg1 := frozen_row i1 0
  have fg2 := frozen_row i2 0
  clear i9 i0 i1 i2 hB hfd hK n0 n1 n2 n3 nb
  gi_wp2
  have hx1 : ((W.setCell ⟨w.heap.size + 1, 0, none⟩ (.int .u8 0)).setCell ⟨w.heap.size + 1 + 1, 0, none⟩ (.bool false)).heap[w.heap.size + 1]? = some (.cells #[.int .u8 0] 5 (0, 0)) := (heap_setCell_other _ _ _ _ (by show w.heap.size + 1 ≠ _; simp)).trans (set_one HI1.out _)
  have hx2 : ((W.setCell ⟨w.heap.size + 1, 0, none⟩ (.int .u8 0)).setCell ⟨w.heap.size + 1 + 1, 0, none⟩ (.bool false)).heap[w.heap.size + 1 + 1]? = some (.cells #[.bool false] 4 (0, 0)) := set_one ((heap_setCell_other _ _ _ _ (by show w.heap.size + 1 + 1 ≠ _; simp)).trans HI2.out) _
  have hK7 : ((W.setCell ⟨w.heap.size + 1, 0, none⟩ (.int .u8 0)).setCell ⟨w.heap.size + 1 + 1, 0, none⟩ (.bool false)).heap[E]? = some (.deferred (some [])) := (heap_setCell_other _ _ _ _ (by show E ≠ w.heap.size + 1 + 1; omega)).trans ((heap_setCell_other _ _ _ _ (by show E ≠ w.heap.size + 1; omega)).trans HK.out)
  have hB8 : Below w.heap.size w ((W.setCell ⟨w.heap.size + 1, 0, none⟩ (.int .u8 0)).setCell ⟨w.heap.size + 1 + 1, 0, none⟩ (.bool false)) := (HB7.out.setCell (p := ⟨w.heap.size + 1, 0, none⟩) (by show w.heap.size ≤ w.heap.size + 1; omega) _).setCell (p := ⟨w.heap.size + 1 + 1, 0, none⟩) (by show w.heap.size ≤ w.heap.size + 1 + 1; omega) _
  generalize ((W.setCell ⟨w.heap.size + 1, 0, none⟩ (.int .u8 0)).setCell ⟨w.heap.size + 1 + 1, 0, none⟩ (.bool false)) = WZ at *
  have z2 := cell_row ((World.putObj_heap_other (o := .deferred none) (show w.heap.size + 1 ≠ E by omega)).trans hx1) 0
  have z3 := cell_row ((World.putObj_heap_other (o := .deferred none) (show w.heap.size + 1 + 1 ≠ E by omega)).trans hx2) 0
  have hh := grownBy_putObj' WZ E (.deferred none)
  refine ⟨by simp, .inl ⟨_, _, rfl, run_takeDeferred hK7, ?_⟩⟩
  exact ⟨.tuple #[.int .u8 0, .bool false], by simp [results, Tryz.results220, go_sem, z2, z3], by rw [HON.out], hB8.grown hh hB8.size (fun k e => by cases e; omega)⟩
 case stop =>
  rintro E c pre W hE hpre ⟨rfl, x, hx, i1, i2, hB⟩ hK
  have HON := Lib.hid (show backR ((glF f 0 256).find? φ) = .tuple #[.int .u8 (x : Int), .bool true] from by rw [find_pre hx hpre]; rfl)
  have hE' : w.heap.size + 1 + 1 + 1 + 1 ≤ E := by rw [HZ6.out] at hE; exact hE
  have HB7 := Lib.hid hB
  have HK := Lib.hid hK
  clear hx hpre hB n0 n1 n2 n3 nb
  gi_wp2
  have hh := grownBy_putObj' W E (.deferred none)
  have z2 := cell_row ((World.putObj_heap_other (o := .deferred none) (show w.heap.size + 1 ≠ E by omega)).trans i1) 0
  have z3 := cell_row ((World.putObj_heap_other (o := .deferred none) (show w.heap.size + 1 + 1 ≠ E by omega)).trans i2) 0
  refine ⟨by simp, .inl ⟨_, _, rfl, run_takeDeferred HK.out, ?_⟩⟩
  exact ⟨.tuple #[.int .u8 (x : Int), .bool true], by simp [results, Tryz.results220, go_sem, z2, z3], by rw [HON.out], HB7.out.grown hh HB7.out.size (fun k e => by cases e; omega)⟩
theorem back_ok {s : Nat} {f : Nat → Int} (hof : OfSet s f) (g : Int) (w : World) : Calls Tryz.prog 220 #[.int .i64 (s : Int), .int .i32 g] w fun e w' => e = .returned (backR (backG f g)) ∧ Below w.heap.size w w' :=
 callsIn_wide.1 (back_in 3 (Nat.le_refl _) hof g w)
end
section
attribute [local go_sem] alloc_drewN setCell_drewN World.cell?_alloc_some frozen_alloc_some
theorem sets_build (W : World) : (Instr.build 262 #[(0, .int .i64 1), (1, .int .i64 4)]).run Tryz.prog W = .ok (.agg #[.int .i64 1, .int .i64 4]) W := by kernel_rfl
theorem sets_at0 (W : World) : (Instr.index 262 (.agg #[.int .i64 1, .int .i64 4]) (.int .i64 0)).run Tryz.prog W = .ok (.int .i64 1) W := by kernel_rfl
theorem sets_at1 (W : World) : (Instr.index 262 (.agg #[.int .i64 1, .int .i64 4]) (.int .i64 1)).run Tryz.prog W = .ok (.int .i64 4) W := by kernel_rfl
attribute [local go_sem] sets_build sets_at0 sets_at1
theorem ofW_1 {g : Int} {i : Nat} (h : backG plainG g = some i) : ((ofW g).toNat : Int) = (i : Int) := by
 have := backG_lt h
 unfold ofW
 rw [h]
 simp only [UInt8.toNat_ofNat']
 omega
theorem ofW_2 {g : Int} {i : Nat} (h1 : backG plainG g = none) (h : backG wyseG g = some i) : ((ofW g).toNat : Int) = (i : Int) := by
 have := backG_lt h
 unfold ofW
 rw [h1, h]
 simp only [UInt8.toNat_ofNat']
 omega
theorem ofW_3 {g : Int} (h1 : backG plainG g = none) (h : backG wyseG g = none) : ((ofW g).toNat : Int) = 32 := by
 unfold ofW
 rw [h1, h]
 rfl
theorem of_w (g : Int) (w : World) : Calls Tryz.prog 182 #[.int .i32 g] w fun e w' => e = .returned (.int .u8 ((ofW g).toNat : Int)) ∧ Below w.heap.size w w' := by
 have HB1 := Lib.hid (show ∀ W : World, Calls Tryz.prog 220 #[.int .i64 1, .int .i32 g] W fun e w' => e = .returned (backR (backG plainG g)) ∧ Below W.heap.size W w' from fun W => back_ok of_plain g W)
 have HB4 := Lib.hid (show ∀ W : World, Calls Tryz.prog 220 #[.int .i64 4, .int .i32 g] W fun e w' => e = .returned (backR (backG wyseG g)) ∧ Below W.heap.size W w' from fun W => back_ok of_wyse g W)
 go_enter Tryz.func182, Tryz.ntmps182
 go_wp2_with fail
 go_loopw [8] (fun i wr => (i = .int .i64 0 ∨ (i = .int .i64 1 ∧ backG plainG g = none) ∨ (i = .int .i64 2 ∧ backG plainG g = none ∧ backG wyseG g = none)) ∧ Below w.heap.size w wr) (fun i _ => 2 - (intOf i).toNat)
 case atStart => exact ⟨.inl rfl, Below.refl _ _⟩
 case round =>
  obtain ⟨hk, hB⟩ := hrel
  have HB := Lib.hid hB
  clear hB
  rcases hk with rfl | ⟨rfl, h1⟩ | ⟨rfl, h1, h2⟩
  · obtain ⟨o, ho⟩ : ∃ o, o = backG plainG g := ⟨_, rfl⟩
    cases o with
    | some i =>
      have HE := Lib.hid (ofW_1 ho.symm)
      rw [← ho] at HB1
      unfold backR at HB1
      simp only at HB1
      clear ho
      go_wp2_with (go_at_call 220; refine (HB1.out _).mono ?_; rintro e w1 ⟨rfl, hb1⟩; have HBB := Lib.hid (Below.later HB.out hb1 HB.out.size); clear hb1)
      go_ret
      exact ⟨by rw [HE.out]; rfl, HBB.out⟩
    | none =>
      have HE := Lib.hid ho.symm
      rw [← ho] at HB1
      unfold backR at HB1
      simp only at HB1
      clear ho
      go_wp2_with (go_at_call 220; refine (HB1.out _).mono ?_; rintro e w1 ⟨rfl, hb1⟩; have HBB := Lib.hid (Below.later HB.out hb1 HB.out.size); clear hb1)
      exact ⟨⟨.inr (.inl ⟨rfl, HE.out⟩), HBB.out⟩, by simp [intOf]⟩
  · have HE1 := Lib.hid h1
    obtain ⟨o, ho⟩ : ∃ o, o = backG wyseG g := ⟨_, rfl⟩
    cases o with
    | some i =>
      have HE := Lib.hid (ofW_2 HE1.out ho.symm)
      rw [← ho] at HB4
      unfold backR at HB4
      simp only at HB4
      clear ho
      go_wp2_with (go_at_call 220; refine (HB4.out _).mono ?_; rintro e w1 ⟨rfl, hb1⟩; have HBB := Lib.hid (Below.later HB.out hb1 HB.out.size); clear hb1)
      go_ret
      exact ⟨by rw [HE.out]; rfl, HBB.out⟩
    | none =>
      have HE := Lib.hid ho.symm
      rw [← ho] at HB4
      unfold backR at HB4
      simp only at HB4
      clear ho
      go_wp2_with (go_at_call 220; refine (HB4.out _).mono ?_; rintro e w1 ⟨rfl, hb1⟩; have HBB := Lib.hid (Below.later HB.out hb1 HB.out.size); clear hb1)
      exact ⟨⟨.inr (.inr ⟨rfl, HE1.out, HE.out⟩), HBB.out⟩, by simp [intOf]⟩
  · have HE := Lib.hid (ofW_3 h1 h2)
    clear h1 h2
    go_wp2_with fail
    go_ret
    exact ⟨by rw [HE.out]; rfl, HB.out⟩
end
end Go.Proofs.YteoeooijpjehpaaGreatDoor
