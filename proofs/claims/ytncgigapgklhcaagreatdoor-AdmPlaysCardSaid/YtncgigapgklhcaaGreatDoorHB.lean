import Derived.Test.YtncgigapgklhcaaGreatDoorHA
import Derived.Test.YtncgigapgklhcaaGreatDoorRows
import Derived.Test.YtncgigapgklhcaaGreatDoorChecked
import Derived.IntWalk
import Derived.WalkSpells
import Derived.BigQuiet
import Derived.Deep.QuietTactic
import Derived.StillTailTactics
import Derived.Deep.RegionWith
import Derived.Deep.RegionHeld3
import Derived.Outline
import Derived.Deep.DeepCutAuto

set_option maxRecDepth 100000
set_option maxHeartbeats 16000000
namespace Go.Proofs.YtncgigapgklhcaaGreatDoor
open Go.RowKit
set_option linter.unusedSimpArgs false
set_option linter.unusedVariables false
/- Walks: the layer walk, and grid.May. -/
section
theorem below1 (w : World) (o : Obj) : Below w.heap.size w (w.alloc o) := (Below.refl _ _).alloc (Nat.le_refl _) _
theorem Below.later {B : Nat} {a b c : World} (h : Below B a b) (k : Below b.heap.size b c) (hB : B ≤ b.heap.size) : Below B a c := h.trans (k.mono hB)
theorem wrap_in {n : Int} (h0 : -9223372036854775808 ≤ n) (h1 : n < 9223372036854775808) : IntKind.i64.wrap n = n := by rw [IntKind.wrap_i64]; omega
def Grew (k : Nat) (w w' : World) : Prop := ∃ (q : Nat) (os : List Obj), os.length = k ∧ w' = { w with heap := w.heap ++ os.toArray, drawn := w.drawn + q }
theorem Grew.refl (w : World) : Grew 0 w w := ⟨0, [], rfl, by simp⟩
theorem Grew.drewN {k : Nat} {w w' : World} (h : Grew k w w') (q : Nat) : Grew k w (w'.drewN q) := by
 obtain ⟨p, os, h, rfl⟩ := h
 exact ⟨p + q, os, h, by simp [World.drewN, Nat.add_assoc]⟩
theorem Grew.alloc {k : Nat} {w w' : World} (h : Grew k w w') (o : Obj) : Grew (k + 1) w (w'.alloc o) := by
 obtain ⟨p, os, h, rfl⟩ := h
 exact ⟨p, os ++ [o], by simp [h], by simp [World.alloc]⟩
theorem Grew.setCell {k : Nat} {w w' : World} (h : Grew k w w') {p : Addr} (hp : w.heap.size ≤ p.block) (v : Value) : Grew k w (w'.setCell p v) := by
 obtain ⟨q, os, h, rfl⟩ := h
 obtain ⟨f, hf⟩ : ∃ f : Obj → Obj, ∀ W : World, W.setCell p v = { W with heap := W.heap.modify p.block f } := ⟨_, fun _ => rfl⟩
 refine ⟨q, (os.toArray.modify (p.block - w.heap.size) f).toList, by simp [h], ?_⟩
 rw [hf]
 congr 1
 apply Array.ext_getElem?
 intro i
 simp only [Array.getElem?_modify, Array.getElem?_append, Array.toArray_toList]
 by_cases hi : i < w.heap.size
 · rw [if_pos hi, if_pos hi, if_neg (by omega)]
 · rw [if_neg hi, if_neg hi]
   by_cases he : p.block = i
   · subst he
     simp
   · rw [if_neg he, if_neg (by omega)]
theorem Grew.trans {k m : Nat} {a b c : World} (h : Grew k a b) (h' : Grew m b c) : Grew (k + m) a c := by
 obtain ⟨q, os, h, rfl⟩ := h
 obtain ⟨q', os', h', rfl⟩ := h'
 exact ⟨q + q', os ++ os', by simp [h, h'], by simp [Nat.add_assoc]⟩
theorem Grew.below {k : Nat} {w w' : World} (h : Grew k w w') : Below w.heap.size w w' := by
 obtain ⟨q, os, h, rfl⟩ := h
 exact ⟨rfl, rfl, rfl, by simp, fun i hi => by simp [Array.getElem?_append, hi]⟩
theorem Grew.zero {w w' : World} (h : Grew 0 w w') : ∃ q, w.drewN q = w' := by
 obtain ⟨q, os, h, rfl⟩ := h
 obtain rfl := List.eq_nil_of_length_eq_zero h
 exact ⟨q, by simp [World.drewN]⟩
theorem Grew.last {k : Nat} {w w' : World} (h : Grew (k + 1) w w') : ∃ v o, Grew k w v ∧ v.alloc o = w' := by
 obtain ⟨q, os, h, rfl⟩ := h
 refine ⟨{ w with heap := w.heap ++ (os.take k).toArray, drawn := w.drawn + q }, os[k]'(by omega), ⟨q, os.take k, by simp; omega, rfl⟩, ?_⟩
 have : os = os.take k ++ [os[k]'(by omega)] := by
  apply List.ext_getElem (by simp; omega)
  intro i h1 h2
  by_cases hi : i < k
  · rw [List.getElem_append_left (by simp; omega), List.getElem_take]
  · rw [List.getElem_append_right (by simp; omega)]
    have : i = k := by omega
    subst this
    simp
 conv => rhs; rw [this]
 simp [World.alloc]
theorem Grew.one {w w' : World} (h : Grew 1 w w') : ∃ q o, (w.alloc o).drewN q = w' := by
 obtain ⟨v, o, h1, rfl⟩ := h.last
 obtain ⟨q, rfl⟩ := h1.zero
 exact ⟨q, o, rfl⟩
theorem Grew.four {w w' : World} (h : Grew 4 w w') : ∃ q o1 o2 o3 o4, ((((w.alloc o1).alloc o2).alloc o3).alloc o4).drewN q = w' := by
 obtain ⟨v4, o4, h4, rfl⟩ := h.last
 obtain ⟨v3, o3, h3, rfl⟩ := h4.last
 obtain ⟨v2, o2, h2, rfl⟩ := h3.last
 obtain ⟨q, o1, rfl⟩ := h2.one
 exact ⟨q, o1, o2, o3, o4, rfl⟩
theorem region_tail {P : Program} {id : Nat} {Q : Exit → Act → World → Prop} {a : Act} {w : World} {l : List Oper} (n : Nat) (hm : P.follows .mixedOrders = true) (hB : Region.lexTailB .any l.toArray n = true)
 (h : wpStill P l.toArray (w.drewN 1) (fun a' => wpList P l.toArray Q (l.drop n) a' (w.drewN 1)) (l.take n) a) : (Code.region id l.toArray true).wp P Q a w := wp_region_still_tail n hm hB h
theorem alloc_drewN (w : World) (o : Obj) (q : Nat) : (w.drewN q).alloc o = (w.alloc o).drewN q := rfl
theorem setCell_drewN (w : World) (p : Addr) (v : Value) (q : Nat) : (w.drewN q).setCell p v = (w.setCell p v).drewN q := rfl
attribute [local go_sem] alloc_drewN setCell_drewN
theorem eqb {a b : Int} : (a == b) = decide (a = b) := rfl
theorem ret1 {v v' : Value} (h : v = v') : Ending.returned v = .returned v' := by rw [h]
def Grows (w w' : World) : Prop := ∃ k, Grew k w w'
theorem Grows.refl (w : World) : Grows w w := ⟨0, Grew.refl w⟩
theorem Grows.drewN {w w' : World} (h : Grows w w') (q : Nat) : Grows w (w'.drewN q) := by
 obtain ⟨k, h⟩ := h
 exact ⟨k, h.drewN q⟩
theorem Grows.alloc {w w' : World} (h : Grows w w') (o : Obj) : Grows w (w'.alloc o) := by
 obtain ⟨k, h⟩ := h
 exact ⟨k + 1, h.alloc o⟩
theorem Grows.below {w w' : World} (h : Grows w w') : Below w.heap.size w w' := by
 obtain ⟨k, h⟩ := h
 exact h.below
theorem Grew.three {w w' : World} (h : Grew 3 w w') : ∃ q o1 o2 o3, (((w.alloc o1).alloc o2).alloc o3).drewN q = w' := by
 obtain ⟨v3, o3, h3, rfl⟩ := h.last
 obtain ⟨v2, o2, h2, rfl⟩ := h3.last
 obtain ⟨q, o1, rfl⟩ := h2.one
 exact ⟨q, o1, o2, o3, rfl⟩
theorem may_ok (r c : Int) (h : Vz.mayS r c = true) (w : World) : Calls Tryz.prog 74 #[.agg #[.int .i64 r, .int .i64 c]] w fun e w' => e = .returned (.int .i64 0) ∧ w.alloc (.cells #[.int .i64 r, .int .i64 c] 23) = w' := by
 have hm := (Vz.mayS_iff r c).1 h
 obtain ⟨h1, h2, h3, h4⟩ := hm
 clear h
 go_enter Tryz.func74, Tryz.ntmps74
 go_wp2_with fail
 go_ret
 exact ⟨rfl, rfl⟩
theorem may_no (r c : Int) (h : Vz.mayS r c = false) (w : World) : Calls Tryz.prog 74 #[.agg #[.int .i64 r, .int .i64 c]] w fun e w' => e = .returned (.int .i64 10) ∧ w.alloc (.cells #[.int .i64 r, .int .i64 c] 23) = w' := by
 have hm : ¬ (1 ≤ r ∧ r ≤ 255 ∧ 1 ≤ c ∧ c ≤ 255) := fun e => by rw [(Vz.mayS_iff r c).2 e] at h; cases h
 have hc : r < 1 ∨ (1 ≤ r ∧ 255 < r) ∨ (1 ≤ r ∧ r ≤ 255 ∧ c < 1) ∨ (1 ≤ r ∧ r ≤ 255 ∧ 1 ≤ c ∧ 255 < c) := by omega
 clear hm h
 rcases hc with h1 | ⟨h1, h2⟩ | ⟨h1, h2, h3⟩ | ⟨h1, h2, h3, h4⟩
 all_goals (
  go_enter Tryz.func74, Tryz.ntmps74
  go_wp2_with fail
  go_ret
  exact ⟨rfl, rfl⟩)
theorem near_any (x n : Int) (hn : -9223372036854775808 < n ∧ n ≤ 9223372036854775807) (w : World) : Calls Tryz.prog 114 #[.int .i64 x, .int .i64 n] w fun e w' => e = .returned (.int .i64 (Vz.nearI x n)) ∧ w' = w := by
 have hw : IntKind.i64.wrap (n - 1) = n - 1 := by rw [IntKind.wrap_i64]; omega
 by_cases h1 : n - 1 < x
 · go_enter Tryz.func114, Tryz.ntmps114
   go_wp2_with fail
   all_goals (
    go_ret
    exact ⟨ret1 (congrArg (Value.int .i64) (by unfold Vz.nearI; omega)), rfl⟩)
 · go_enter Tryz.func114, Tryz.ntmps114
   go_wp2_with fail
   all_goals (
    go_ret
    exact ⟨ret1 (congrArg (Value.int .i64) (by unfold Vz.nearI; omega)), rfl⟩)
theorem cut_any (n : Int) (w : World) : Calls Tryz.prog 121 #[.int .i64 n] w fun e w' => e = .returned (.int .i64 (Vz.cutI n)) ∧ w' = w := by
 by_cases h1 : n < 510
 · go_enter Tryz.func121, Tryz.ntmps121
   go_wp2_with fail
   all_goals (
    go_ret
    exact ⟨ret1 (congrArg (Value.int .i64) (by unfold Vz.cutI; omega)), rfl⟩)
 · go_enter Tryz.func121, Tryz.ntmps121
   go_wp2_with fail
   all_goals (
    go_ret
    exact ⟨ret1 (congrArg (Value.int .i64) (by unfold Vz.cutI; omega)), rfl⟩)
theorem near_pos (r c x y : Int) (w : World) : Calls Tryz.prog 91 #[.agg #[.int .i64 r, .int .i64 c], .agg #[.int .i64 x, .int .i64 y]] w fun e w' => e = .returned (.agg #[.int .i64 (Vz.nearP r c ⟨x, y⟩).row, .int .i64 (Vz.nearP r c ⟨x, y⟩).col]) ∧ Grew 4 w w' := by
 by_cases h : Vz.mayS r c = true
 · have hm := (Vz.mayS_iff r c).1 h
   obtain ⟨h1, h2, h3, h4⟩ := hm
   have HR : Hid ((Vz.nearP r c ⟨x, y⟩).row = Vz.nearI x r) := by unfold Vz.nearP Hid; rw [if_pos h]
   have HC : Hid ((Vz.nearP r c ⟨x, y⟩).col = Vz.nearI y c) := by unfold Vz.nearP Hid; rw [if_pos h]
   have H := Lib.hid h
   have HN := Lib.hid near_any
   have hr : -9223372036854775808 < r ∧ r ≤ 9223372036854775807 := by omega
   have hc : -9223372036854775808 < c ∧ c ≤ 9223372036854775807 := by omega
   clear h
   go_enter Tryz.func91, Tryz.ntmps91
   go_upto_region 3 with (go_at_call 74; refine (may_ok _ _ H.out _).mono ?_; rintro e wm ⟨rfl, rfl⟩)
   refine region_tail 11 (by kernel_rfl) (by kernel_rfl) ?_
   simp only [List.take_succ_cons, List.take_zero, List.drop_succ_cons, List.drop_zero]
   repeat (first | still_step | still_call (HN.out _ _ (by assumption) _))
   try refine wpStill_nil ?_
   go_wp2_with fail
   refine bodyPost_ret (v := .agg #[.int .i64 (Vz.nearI x r), .int .i64 (Vz.nearI y c)]) (by simp [results, Tryz.results91, go_sem]) rfl ⟨ret1 (by rw [HR.out, HC.out]), ?_⟩
   exact (((((Grew.refl _).alloc _).alloc _).alloc _).alloc _).drewN _
 · have hf : Vz.mayS r c = false := by simpa using h
   have HR : Hid ((Vz.nearP r c ⟨x, y⟩) = Vz.Ps.nil) := by unfold Vz.nearP Hid; rw [if_neg h]
   have H := Lib.hid hf
   clear h hf
   go_enter Tryz.func91, Tryz.ntmps91
   go_wp2_with ((go_at_call 74; refine (may_no _ _ H.out _).mono ?_; rintro e wm ⟨rfl, rfl⟩))
   refine bodyPost_ret (v := .agg #[.int .i64 0, .int .i64 0]) (by simp [results, Tryz.results91, go_sem]) rfl ⟨ret1 (by rw [HR.out]; rfl), ?_⟩
   exact ((((Grew.refl _).alloc _).alloc _).alloc _).alloc _
theorem nearP_small (r c : Int) (p : Vz.Ps) : 0 ≤ (Vz.nearP r c p).row ∧ (Vz.nearP r c p).row ≤ 254 ∧ 0 ≤ (Vz.nearP r c p).col ∧ (Vz.nearP r c p).col ≤ 254 := by
 by_cases h : Vz.mayS r c = true
 · have hm := (Vz.mayS_iff r c).1 h
   have := Vz.nearP_in r c p h
   unfold Vz.Ps.inS at this
   omega
 · unfold Vz.nearP
   rw [if_neg h]
   exact ⟨Int.le_refl _, by decide, Int.le_refl _, by decide⟩
theorem step_any (r c x y : Int) (pd : Bool) (a b : Int) (w : World) : Calls Tryz.prog 103 #[.agg #[.int .i64 r, .int .i64 c], .agg #[.int .i64 x, .int .i64 y, .bool pd], .int .i64 a, .int .i64 b] w fun e w' => e = .returned (.agg #[.int .i64 (Vz.stepP r c ⟨⟨x, y⟩, pd⟩ a b).at_.row, .int .i64 (Vz.stepP r c ⟨⟨x, y⟩, pd⟩ a b).at_.col, .bool false]) ∧ Below w.heap.size w w' := by
 have HN := Lib.hid near_pos
 have HC := Lib.hid cut_any
 obtain ⟨s1, s2, s3, s4⟩ := nearP_small r c ⟨x, y⟩
 have hR : Hid (Vz.stepP r c ⟨⟨x, y⟩, pd⟩ a b = ⟨Vz.nearP r c ⟨(Vz.nearP r c ⟨x, y⟩).row + Vz.cutI a, (Vz.nearP r c ⟨x, y⟩).col + Vz.cutI b⟩, false⟩) := rfl
 have ca : -510 ≤ Vz.cutI a ∧ Vz.cutI a ≤ 510 := by unfold Vz.cutI; omega
 have cb : -510 ≤ Vz.cutI b ∧ Vz.cutI b ≤ 510 := by unfold Vz.cutI; omega
 have w1 : IntKind.i64.wrap ((Vz.nearP r c ⟨x, y⟩).row + Vz.cutI a) = (Vz.nearP r c ⟨x, y⟩).row + Vz.cutI a := wrap_in (by omega) (by omega)
 have w2 : IntKind.i64.wrap ((Vz.nearP r c ⟨x, y⟩).col + Vz.cutI b) = (Vz.nearP r c ⟨x, y⟩).col + Vz.cutI b := wrap_in (by omega) (by omega)
 rw [hR.out]
 go_enter Tryz.func103, Tryz.ntmps103
 go_upto_region 2 with (first
  | (go_at_call 91; refine (HN.out _ _ _ _ _).mono ?_; rintro e wn ⟨rfl, hg⟩; obtain ⟨q, o1, o2, o3, o4, rfl⟩ := hg.four; clear hg))
 refine region_tail 12 (by kernel_rfl) (by kernel_rfl) ?_
 simp only [List.take_succ_cons, List.take_zero, List.drop_succ_cons, List.drop_zero]
 repeat (first | still_step | still_call (HC.out _ _))
 try refine wpStill_nil ?_
 go_wp2_with (first
  | (go_at_call 91; refine (HN.out _ _ _ _ _).mono ?_; rintro e wn ⟨rfl, hg'⟩; obtain ⟨q', p1, p2, p3, p4, rfl⟩ := hg'.four; clear hg'))
 refine bodyPost_ret (v := .agg #[.int .i64 (Vz.nearP r c ⟨(Vz.nearP r c ⟨x, y⟩).row + Vz.cutI a, (Vz.nearP r c ⟨x, y⟩).col + Vz.cutI b⟩).row, .int .i64 (Vz.nearP r c ⟨(Vz.nearP r c ⟨x, y⟩).row + Vz.cutI a, (Vz.nearP r c ⟨x, y⟩).col + Vz.cutI b⟩).col, .bool false]) (by simp [results, Tryz.results103, go_sem]) rfl ⟨rfl, Grows.below ?_⟩
 repeat (first | exact Grows.refl _ | refine Grows.drewN ?_ _ | refine Grows.alloc ?_ _)
theorem next_any (r c x y : Int) (h0 : 0 ≤ x ∧ x ≤ 254) (h1 : 1 ≤ r ∧ r ≤ 255) (w : World) : Calls Tryz.prog 145 #[.agg #[.int .i64 r, .int .i64 c], .agg #[.int .i64 x, .int .i64 y]] w fun e w' => e = .returned (.tuple #[.agg #[.int .i64 (Vz.nextP r ⟨x, y⟩).1.row, .int .i64 (Vz.nextP r ⟨x, y⟩).1.col], .bool (Vz.nextP r ⟨x, y⟩).2]) ∧ Grew 3 w w' := by
 by_cases hc : r - 1 < x + 1
 · have hR : Hid (Vz.nextP r ⟨x, y⟩ = (⟨r - 1, 0⟩, decide (r - 1 = x))) := by
    unfold Vz.nextP
    simp only
    rw [show min (x + 1) (r - 1) = r - 1 by omega]
    rfl
   rw [hR.out]
   go_enter Tryz.func145, Tryz.ntmps145
   go_upto_region 2 with fail
   go_region
   go_wp2_with fail
   refine bodyPost_ret (v := .tuple #[.agg #[.int .i64 (r - 1), .int .i64 0], .bool (r - 1 == x)]) (by simp [results, Tryz.results145, go_sem]) rfl ⟨ret1 (by rw [eqb]), ?_⟩
   exact ((((Grew.refl _).alloc _).alloc _).alloc _).drewN 1
 · have hR : Hid (Vz.nextP r ⟨x, y⟩ = (⟨x + 1, 0⟩, false)) := by
    unfold Vz.nextP
    simp only
    rw [show min (x + 1) (r - 1) = x + 1 by omega, decide_eq_false (by omega)]
    rfl
   rw [hR.out]
   go_enter Tryz.func145, Tryz.ntmps145
   go_upto_region 2 with fail
   go_region
   go_wp2_with fail
   refine bodyPost_ret (v := .tuple #[.agg #[.int .i64 (x + 1), .int .i64 0], .bool false]) (by simp [results, Tryz.results145, go_sem]; omega) rfl ⟨rfl, ?_⟩
   exact ((((Grew.refl _).alloc _).alloc _).alloc _).drewN 1
theorem ahead_any (r c x y : Int) (pd : Bool) (h : Vz.mayS r c = true) (w : World) : Calls Tryz.prog 129 #[.agg #[.int .i64 r, .int .i64 c], .agg #[.int .i64 x, .int .i64 y, .bool pd]] w fun e w' => e = .returned (.tuple #[.agg #[.int .i64 (Vz.aheadP r c ⟨⟨x, y⟩, pd⟩).1.row, .int .i64 (Vz.aheadP r c ⟨⟨x, y⟩, pd⟩).1.col], .bool (Vz.aheadP r c ⟨⟨x, y⟩, pd⟩).2]) ∧ Below w.heap.size w w' := by
 have HN := Lib.hid near_pos
 have H := Lib.hid h
 have hm := (Vz.mayS_iff r c).1 h
 have s1 : 0 ≤ (Vz.nearP r c ⟨x, y⟩).row ∧ (Vz.nearP r c ⟨x, y⟩).row ≤ 254 := ⟨(nearP_small r c ⟨x, y⟩).1, (nearP_small r c ⟨x, y⟩).2.1⟩
 have s2 : 1 ≤ r ∧ r ≤ 255 := ⟨hm.1, hm.2.1⟩
 clear hm
 cases pd
 · have hR : Hid (Vz.aheadP r c ⟨⟨x, y⟩, false⟩ = (Vz.nearP r c ⟨x, y⟩, false)) := by unfold Vz.aheadP; simp [Hid]
   rw [hR.out]
   clear h
   go_enter Tryz.func129, Tryz.ntmps129
   go_wp2_with (first
    | (go_at_call 91; refine (HN.out _ _ _ _ _).mono ?_; rintro e wn ⟨rfl, hg⟩; obtain ⟨q, o1, o2, o3, o4, rfl⟩ := hg.four; clear hg))
   refine bodyPost_ret (v := .tuple #[.agg #[.int .i64 (Vz.nearP r c ⟨x, y⟩).row, .int .i64 (Vz.nearP r c ⟨x, y⟩).col], .bool false]) (by simp [results, Tryz.results129, go_sem]) rfl ⟨rfl, Grows.below ?_⟩
   repeat (first | exact Grows.refl _ | refine Grows.drewN ?_ _ | refine Grows.alloc ?_ _)
 · have hR : Hid (Vz.aheadP r c ⟨⟨x, y⟩, true⟩ = Vz.nextP r (Vz.nearP r c ⟨x, y⟩)) := by unfold Vz.aheadP; simp [Hid, h]
   rw [hR.out]
   clear h hR
   generalize hP : Vz.nearP r c ⟨x, y⟩ = p at *
   have HP := Lib.hid hP
   clear hP
   go_enter Tryz.func129, Tryz.ntmps129
   go_wp2_with (first
    | (go_at_call 91; refine (HN.out _ _ _ _ _).mono ?_; rw [HP.out]; rintro e wn ⟨rfl, hg⟩; obtain ⟨q, o1, o2, o3, o4, rfl⟩ := hg.four; clear hg)
    | (go_at_call 74; refine (may_ok _ _ H.out _).mono ?_; rintro e wm ⟨rfl, rfl⟩)
    | (go_at_call 145; refine (next_any _ _ _ _ s1 s2 _).mono ?_; rintro e wm ⟨rfl, hg⟩; obtain ⟨q1, p1, p2, p3, rfl⟩ := hg.three; clear hg))
   refine bodyPost_ret (v := .tuple #[.agg #[.int .i64 (Vz.nextP r p).1.row, .int .i64 (Vz.nextP r p).1.col], .bool (Vz.nextP r p).2]) (by simp [results, Tryz.results129, go_sem]) rfl ⟨rfl, Grows.below ?_⟩
   repeat (first | exact Grows.refl _ | refine Grows.drewN ?_ _ | refine Grows.alloc ?_ _)
theorem behind_any (r c x y wrap : Int) (h : Vz.mayS r c = true) (w : World) : Calls Tryz.prog 131 #[.agg #[.int .i64 r, .int .i64 c], .agg #[.int .i64 x, .int .i64 y], .int .i64 wrap] w fun e w' => e = .returned (.tuple #[.agg #[.int .i64 (Vz.behindP r c ⟨x, y⟩ wrap).1.at_.row, .int .i64 (Vz.behindP r c ⟨x, y⟩ wrap).1.at_.col, .bool (Vz.behindP r c ⟨x, y⟩ wrap).1.pend], .bool (Vz.behindP r c ⟨x, y⟩ wrap).2]) ∧ Below w.heap.size w w' := by
 have HN := Lib.hid near_pos
 have H := Lib.hid h
 have hm := (Vz.mayS_iff r c).1 h
 obtain ⟨m1, m2, m3, m4⟩ := hm
 have s0 := nearP_small r c ⟨x, y⟩
 have s1 : 0 ≤ (Vz.nearP r c ⟨x, y⟩).row ∧ (Vz.nearP r c ⟨x, y⟩).row ≤ 254 := ⟨s0.1, s0.2.1⟩
 have s2 : 1 ≤ r ∧ r ≤ 255 := ⟨m1, m2⟩
 obtain ⟨_, _, s3, s4⟩ := s0
 have hR : Hid (Vz.behindP r c ⟨x, y⟩ wrap = (let q := Vz.nearP r c ⟨x, y⟩; if q.col < c - 1 then (⟨⟨q.row, q.col + 1⟩, false⟩, false) else if wrap = 1 then (⟨q, false⟩, false) else if wrap = 2 then (⟨(Vz.nextP r q).1, false⟩, (Vz.nextP r q).2) else (⟨q, true⟩, false))) := by unfold Vz.behindP; rw [if_pos h]; rfl
 rw [hR.out]
 clear h hR
 generalize hP : Vz.nearP r c ⟨x, y⟩ = p at *
 have HP := Lib.hid hP
 clear hP
 by_cases hc : p.col < c - 1
 · simp only [if_pos hc]
   go_enter Tryz.func131, Tryz.ntmps131
   go_wp2_with (first
    | (go_at_call 91; refine (HN.out _ _ _ _ _).mono ?_; rw [HP.out]; rintro e wn ⟨rfl, hg⟩; obtain ⟨q, o1, o2, o3, o4, rfl⟩ := hg.four; clear hg)
    | (go_at_call 74; refine (may_ok _ _ H.out _).mono ?_; rintro e wm ⟨rfl, rfl⟩))
   refine bodyPost_ret (v := .tuple #[.agg #[.int .i64 p.row, .int .i64 (p.col + 1), .bool false], .bool false]) (by simp [results, Tryz.results131, go_sem]) rfl ⟨rfl, Grows.below ?_⟩
   repeat (first | exact Grows.refl _ | refine Grows.drewN ?_ _ | refine Grows.alloc ?_ _)
 by_cases hw1 : wrap = 1
 · simp only [if_neg hc, if_pos hw1]
   subst hw1
   go_enter Tryz.func131, Tryz.ntmps131
   go_wp2_with (first
    | (go_at_call 91; refine (HN.out _ _ _ _ _).mono ?_; rw [HP.out]; rintro e wn ⟨rfl, hg⟩; obtain ⟨q, o1, o2, o3, o4, rfl⟩ := hg.four; clear hg)
    | (go_at_call 74; refine (may_ok _ _ H.out _).mono ?_; rintro e wm ⟨rfl, rfl⟩))
   refine bodyPost_ret (v := .tuple #[.agg #[.int .i64 p.row, .int .i64 p.col, .bool false], .bool false]) (by simp [results, Tryz.results131, go_sem]) rfl ⟨rfl, Grows.below ?_⟩
   repeat (first | exact Grows.refl _ | refine Grows.drewN ?_ _ | refine Grows.alloc ?_ _)
 by_cases hw2 : wrap = 2
 · simp only [if_neg hc, if_neg hw1, if_pos hw2]
   subst hw2
   clear hw1
   go_enter Tryz.func131, Tryz.ntmps131
   go_wp2_with (first
    | (go_at_call 91; refine (HN.out _ _ _ _ _).mono ?_; rw [HP.out]; rintro e wn ⟨rfl, hg⟩; obtain ⟨q, o1, o2, o3, o4, rfl⟩ := hg.four; clear hg)
    | (go_at_call 74; refine (may_ok _ _ H.out _).mono ?_; rintro e wm ⟨rfl, rfl⟩)
    | (go_at_call 145; refine (next_any _ _ _ _ s1 s2 _).mono ?_; rintro e wm ⟨rfl, hg⟩; obtain ⟨q1, p1, p2, p3, rfl⟩ := hg.three; clear hg))
   refine bodyPost_ret (v := .tuple #[.agg #[.int .i64 (Vz.nextP r p).1.row, .int .i64 (Vz.nextP r p).1.col, .bool false], .bool (Vz.nextP r p).2]) (by simp [results, Tryz.results131, go_sem]) rfl ⟨rfl, Grows.below ?_⟩
   repeat (first | exact Grows.refl _ | refine Grows.drewN ?_ _ | refine Grows.alloc ?_ _)
 simp only [if_neg hc, if_neg hw1, if_neg hw2]
 go_enter Tryz.func131, Tryz.ntmps131
 go_wp2_with (first
  | (go_at_call 91; refine (HN.out _ _ _ _ _).mono ?_; rw [HP.out]; rintro e wn ⟨rfl, hg⟩; obtain ⟨q, o1, o2, o3, o4, rfl⟩ := hg.four; clear hg)
  | (go_at_call 74; refine (may_ok _ _ H.out _).mono ?_; rintro e wm ⟨rfl, rfl⟩))
 refine bodyPost_ret (v := .tuple #[.agg #[.int .i64 p.row, .int .i64 p.col, .bool true], .bool false]) (by simp [results, Tryz.results131, go_sem]) rfl ⟨rfl, Grows.below ?_⟩
 repeat (first | exact Grows.refl _ | refine Grows.drewN ?_ _ | refine Grows.alloc ?_ _)
end
end Go.Proofs.YtncgigapgklhcaaGreatDoor
