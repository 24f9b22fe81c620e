/- Walks: sgr.counted, sgr.Apply. -/
import Derived.Test.YtjfnmjgfbkcaaaaDoorSgrTab
import Derived.Test.YtjfnmjgfbkcaaaaDoorRange
import Derived.RangeFuncBox
import Derived.RangeFuncNested
import Derived.RangeFuncBound
import Derived.RangeFuncCalls
import Derived.RangeFuncLeaves
import Derived.Shelf.Abstract
import Derived.Shelf.RegionOpen
import Derived.OwnWalkIn
import Derived.TacticsInMore
import Derived.LoopNIn
import Derived.LoopIn
namespace Go.Proofs.YtjfnmjgfbkcaaaaDoor
open Go.RowKit Go.Shelf
attribute [local go_sem] Oper.semAt_some

/-- The numbers that count: of none a 0. -/
def countL (l : List Int) : List Int := if l = [] then [0] else l
def foldN (n : Nat) (l : List Int) : Nat := l.foldl Vz.oneN n
theorem foldN_may (l : List Int) : ∀ n, Vz.MayP n → Vz.MayP (foldN n l) := by
  induction l with
  | nil => exact fun n h => h
  | cons x r ih => exact fun n h => ih _ (Vz.mayP_one n x h)
theorem foldN_snoc (n : Nat) (l : List Int) (x : Int) : foldN n (l ++ [x]) = Vz.oneN (foldN n l) x := by unfold foldN; rw [List.foldl_append]; rfl
theorem foldN_append (n : Nat) (l r : List Int) : foldN n (l ++ r) = foldN (foldN n l) r := by unfold foldN; rw [List.foldl_append]
/-- What numbers make of attributes. -/
def applyN (a : Int) (l : List Int) : Nat := foldN (startN a) (countL l)
theorem applyN_may (a : Int) (l : List Int) : Vz.MayP (applyN a l) := foldN_may _ _ (startN_may a)

/-- Box Bc and what lies below B stay. -/
def KeptC (Bc B : Nat) (W W' : World) : Prop := W'.heap[Bc]? = W.heap[Bc]? ∧ ∀ b, b < B → W'.heap[b]? = W.heap[b]?
theorem KeptC.trans {Bc B : Nat} {a b c : World} (h : KeptC Bc B a b) (k : KeptC Bc B b c) : KeptC Bc B a c := ⟨k.1.trans h.1, fun i hi => (k.2 i hi).trans (h.2 i hi)⟩
theorem Ints.keptC {Bc B : Nat} {W W' : World} {A : Option Addr} {n : Nat} {l : List Int} (h : Ints B W A n l) (k : KeptC Bc B W W') : Ints B W' A n l :=
  h.keep fun p hp => World.cell?_of_block (k.2 p.block hp)
theorem boxed_below {W W' : World} {b : Nat} {t : TypeId} {v : Value} (h : Boxed W b t v) (hb : Below W.heap.size W W') : Boxed W' b t v := (hb.block b h.lt).trans h
theorem keepsOthers_below {W W' : World} (h : Below W.heap.size W W') : KeepsOthers W W' :=
  ⟨h.size, fun k o hk _ => by rw [h.block k (Array.getElem?_eq_some_iff.1 hk).1]; exact hk⟩

theorem counted_in (n : Nat) (A : Option Addr) (m c : Nat) (w : World) :
    CallsIn Fence.wide n Tryd.prog 23 #[.slice A m c] w fun e w' => e = .returned (.func (.func 35) #[] #[.pointer (some ⟨w.heap.size, 0, none⟩)]) ∧ w' = w.alloc (.cells #[.slice A m c] 22) := by
  refine callsIn_of_wp Tryd.func23 rfl trivial ?_ rfl
  simp only [Tryd.ntmps23, List.size_toArray, List.length_cons, List.length_nil, Nat.reduceAdd, Nat.reduceSub, Array.replicate_succ, Array.replicate_zero, List.push_toArray, List.append_toArray, List.nil_append, List.cons_append]
  gi_wp2
  go_ret
  exact ⟨rfl, rfl⟩

set_option maxRecDepth 100000 in
set_option maxHeartbeats 1000000 in
theorem counted1_in (n : Nat) (hn : 1 ≤ n) (l Bc B : Nat) (A : Option Addr) (m c : Nat) (L : List Int) (hm : m ≤ 1000) (J Jx : List Int → World → Prop)
    (hY : ∀ pre x W, J pre W → (pre ++ [x]) <+: countL L → YieldAt Fence.wide (n - 1) Tryd.prog l #[.int .i64 x] W fun e W' =>
      (e = .returned (.bool true) ∧ J (pre ++ [x]) W' ∧ KeptC Bc B W W') ∨ (e = .returned (.bool false) ∧ Jx (pre ++ [x]) W'))
    (W : World) (hB : Boxed W Bc 22 (.slice A m c)) (hI : Ints B W A m L) (h0 : J [] W) :
    CallsIn Fence.wide n Tryd.prog 35 #[.func (.yield l) #[] #[], .pointer (some ⟨Bc, 0, none⟩)] W fun e W' => (∃ v, e = .returned v) ∧
      ((∃ ys, ys = countL L ∧ J ys W') ∨ (∃ pre, pre <+: countL L ∧ Jx pre W')) := by
  have hc0 := hB.cell
  have hf0 := hB.frozen
  refine callsIn_of_wp Tryd.func35 rfl trivial ?_ rfl
  simp only [Tryd.ntmps35, List.size_toArray, List.length_cons, List.length_nil, Nat.reduceAdd, Nat.reduceSub, Array.replicate_succ, Array.replicate_zero, List.push_toArray, List.append_toArray, List.nil_append, List.cons_append]
  by_cases hz : m = 0
  · subst hz
    have hL : L = [] := List.length_eq_zero_iff.1 hI.1.symm
    subst hL
    obtain ⟨fn, tmps, assign, body, hy, hR⟩ := hY [] 0 W h0 (List.prefix_refl _)
    clear hY hI
    gi_wp2
    refine hR.mono ?_
    rintro e W3 (⟨rfl, hJ3, -⟩ | ⟨rfl, hJx3⟩)
    · gi_wp2
      refine bodyPost_ret (results_none rfl _ _ _) rfl ?_
      exact ⟨⟨_, rfl⟩, .inl ⟨_, rfl, hJ3⟩⟩
    · gi_wp2
      refine bodyPost_ret (results_none rfl _ _ _) rfl ?_
      exact ⟨⟨_, rfl⟩, .inr ⟨_, List.prefix_refl _, hJx3⟩⟩
  · have hLn : countL L = L := by unfold countL; rw [if_neg]; rintro rfl; exact hz hI.1
    rw [hLn] at hY ⊢
    have hz' : ((m : Int) == 0) = false := by simp [hz]
    gi_wp2
    gi_loopw [12] (fun i wr => ∃ k : Nat, k ≤ m ∧ i = .int .i64 k ∧ J (L.take k) wr ∧ Ints B wr A m L) (fun i _ => m - (intOf i).toNat)
    case atStart => exact ⟨0, Nat.zero_le _, rfl, h0, hI⟩
    case round =>
      obtain ⟨k, hk, rfl, hj, hIr⟩ := hrel
      by_cases hlt : k < m
      · obtain ⟨b, o, rfl, hc⟩ := hIr.at_ hlt
        have hkL : k < L.length := by have := hIr.1; omega
        have htk : L.take k ++ [L[k]?.getD 0] = L.take (k + 1) := by rw [List.take_add_one, List.getElem?_eq_getElem hkL]; rfl
        have hpf : L.take k ++ [L[k]?.getD 0] <+: L := by rw [htk]; exact List.take_prefix _ _
        have HPF := Lib.hid (List.take_prefix (k + 1) L)
        rw [← htk] at HPF
        generalize hx : L[k]?.getD 0 = x at hc htk hpf HPF
        have HX := Lib.hid hx
        obtain ⟨fn, tmps, assign, body, hy, hR⟩ := hY (L.take k) x wr hj hpf
        rw [htk] at hR
        clear hx hpf hkL
        have HR := Lib.hid hR
        have HI := Lib.hid hIr
        clear hY htk hR hIr hI
        gi_wp2
        refine HR.out.mono ?_
        rintro e W3 (⟨rfl, hJ3, hk3⟩ | ⟨rfl, hJx3⟩)
        · have HK := Lib.hid hk3
          clear hk3
          gi_wp2
          go_roundw
          case rel => exact ⟨k + 1, by omega, by go_num, hJ3, HI.out.keptC HK.out⟩
          case measure => simp [intOf]; omega
        · gi_wp2
          refine bodyPost_ret (results_none rfl _ _ _) rfl ?_
          exact ⟨⟨_, rfl⟩, .inr ⟨_, List.take_prefix _ _, hJx3⟩⟩
      · obtain rfl : k = m := by omega
        have HI := Lib.hid hIr
        clear hY hIr hI
        gi_wp2
        go_end0
        exact ⟨⟨_, rfl⟩, .inl ⟨_, rfl, by have := HI.out.1; rwa [List.take_of_length_le (by omega)] at hj⟩⟩

theorem counted_stops (n : Nat) (hn : 1 ≤ n) (Bc B : Nat) (A : Option Addr) (m c : Nat) (L : List Int) (hm : m ≤ 1000) (w : World) (hB : Boxed w Bc 22 (.slice A m c)) (hI : Ints B w A m L) (hBw : B ≤ w.heap.size) :
    SeqStopsC Fence.wide n Tryd.prog 35 #[.pointer (some ⟨Bc, 0, none⟩)] (fun x : Int => #[Value.int .i64 x]) Bc (KeptC Bc B) (fun ys => ys = countL L) (fun pre => pre <+: countL L) (fun pre x => (pre ++ [x]) <+: countL L) w :=
  fun l J Jx W hW _ _ _ _ hY h0 => counted1_in n hn l Bc B A m c L hm J Jx hY W ((hW.block Bc hB.lt).trans hB) (hI.below hW hBw) h0

set_option maxRecDepth 100000 in
set_option maxHeartbeats 2000000 in
theorem apply_in (n : Nat) (hn : 3 ≤ n) (B : Nat) (a : Int) (A : Option Addr) (m c : Nat) (L : List Int) (hm : m ≤ 1000) (w : World) (hI : Ints B w A m L) (hBw : B ≤ w.heap.size) :
    CallsIn Fence.wide n Tryd.prog 13 #[.int .i64 a, .slice A m c] w fun e W' => e = .returned (.int .i64 (applyN a L)) ∧ Below w.heap.size w W' := by
  have h1 : 1 ≤ n := by omega
  have HA := Lib.hid (right_any a w)
  refine callsIn_of_wp_marks Tryd.func13 rfl trivial ?_ rfl
  simp only [Tryd.ntmps13, List.size_toArray, List.length_cons, List.length_nil, Nat.reduceAdd, Nat.reduceSub, Array.replicate_succ, Array.replicate_zero, List.push_toArray, List.append_toArray, List.nil_append, List.cons_append]
  have hI0 := Lib.hid hI
  clear hI
  gi_wp2_with (first | (refine ⟨trivial, ?_⟩; gi_at_call 22; refine (callsIn_wide.2 HA.out).mono ?_; rintro e w' ⟨rfl, rfl⟩) | (refine ⟨trivial, ?_⟩; gi_at_call 23; refine (counted_in (n - 1) A m c _).mono ?_; rintro e w' ⟨rfl, rfl⟩))
  have bO := Boxed.new w 3 (.int .i64 (startN a))
  have bC := Boxed.new (w.alloc (.cells #[.int .i64 (startN a)] 3)) 22 (.slice A m c)
  rw [World.size_alloc] at bC
  have hB0 : Below w.heap.size w ((w.alloc (.cells #[.int .i64 (startN a)] 3)).alloc (.cells #[.slice A m c] 22)) :=
    ((Below.refl _ w).alloc (Nat.le_refl _) _).alloc (by simp) _
  refine wpIn_rangeFunc_ownC rfl h1 (gf := 35) (lb := #[.pointer (some ⟨w.heap.size + 1, 0, none⟩)]) rfl trivial (enters_of Tryd.func35 (by kernel_rfl) rfl)
    (Bc := w.heap.size + 1) (counted_stops (n - 1) (by omega) (w.heap.size + 1) B A m c L hm _ bC (hI0.out.below hB0 hBw) (by have := hB0.size; omega)) (by simp) (fun h k => h.trans k) (fun W l o o' hl _ _ _ => ⟨World.putObj_heap_other (by simp at hl; omega), fun b hb => World.putObj_heap_other (by simp at hl; omega)⟩) (Below.refl _ _) (fun _ => rfl)
    (fun pre W => Boxed W w.heap.size 3 (.int .i64 (foldN (startN a) pre)) ∧ (∃ u, Boxed W (w.heap.size + 1) 22 u) ∧ Below w.heap.size w W)
    (fun _ _ _ => False)
    ?hI ?hIx ?hIc ?hIxc ?h0
    (fun x => { tmps := #[.int .i64 a, .slice A m c, undef, undef, .int .i64 0, .pointer (some ⟨w.heap.size, 0, none⟩), .int .i64 x, .int .i64 a, .int .i64 (startN a), .slice A m c, .func (.func 35) #[] #[.pointer (some ⟨w.heap.size + 1, 0, none⟩)], .int .i64 x, undef, undef, undef, undef], defers := [] }) ?assign ?body ?done ?stop
  case hI =>
    rintro pre X Y row ⟨hv, ⟨u, bu⟩, hB⟩ hg hrow
    exact ⟨boxed_keptC hv hg hrow, ⟨u, boxed_keptC bu hg hrow⟩, hB.grown hg hB.size (fun k e => by have := (hrow k e).1; simp at this; omega)⟩
  case hIx => exact fun _ _ _ _ _ h _ _ => h
  case hIc =>
    rintro pre X x ⟨hv, ⟨u, bu⟩, hB⟩
    exact ⟨boxed_set hv (by omega) _, ⟨x, bu.set x⟩, hB.setCell (p := ⟨w.heap.size + 1, 0, none⟩) (by show _ ≤ w.heap.size + 1; omega) _⟩
  case hIxc => exact fun _ _ _ _ h => h
  case h0 => exact ⟨bO.alloc _, ⟨_, bC⟩, hB0⟩
  case assign =>
    intro l x W K hK
    gi_wp2
    exact hK
  case body =>
    rintro l pre x W ⟨hv, ⟨u, bu⟩, hB⟩ -
    have hc := hv.cell
    have hf := hv.frozen
    have hm1 := foldN_may pre _ (startN_may a)
    have HO := Lib.hid (one_any _ x hm1 W)
    have HS := Lib.hid (foldN_snoc (startN a) pre x)
    rw [← HS.out] at HO
    clear hm1
    generalize hr : foldN (startN a) (pre ++ [x]) = r at HO
    have HRR := Lib.hid hr
    clear hr HS
    have HV := Lib.hid hv
    have HB := Lib.hid hB
    have HU := Lib.hid bu
    clear hv hB bu
    gi_wp2_with (refine ⟨trivial, (fun h => by cases h), ?_⟩; gi_at_call 24; refine (CallsIn.inRound l (callsIn_wide.2 HO.out)).mono ?_; rintro e w' ⟨rfl, hb1⟩; have hv1 := boxed_below HV.out hb1; have hc1 := hv1.cell; have hf1 := hv1.frozen)
    have hbB := HB.out
    exact ⟨((keepsOthers_below hb1).trans (KeepsOthers.setCell _ _ _)).from _, ⟨(Below.heap_setCell _ _ _ _ (by show w.heap.size + 1 ≠ w.heap.size; omega)).trans (hb1.block _ HU.out.lt), fun b hb => (Below.heap_setCell _ _ _ _ (by show b ≠ w.heap.size; omega)).trans (hb1.block b (by have := HB.out.size; omega))⟩, (by rw [HRR.out]; exact hv1.set _), ⟨u, boxed_set (boxed_below HU.out hb1) (by omega) _⟩, (below_join HB.out hb1).setCell (p := ⟨w.heap.size, 0, none⟩) (Nat.le_refl _) _⟩
  case done =>
    rintro D ys W hD rfl ⟨hv, ⟨u, bu⟩, hB⟩ hK
    have hc := hv.cell
    have hf := hv.frozen
    gi_wp2
    refine ⟨by simp, .inl ⟨_, _, rfl, run_takeDeferred hK, ?_⟩⟩
    have hh := grownBy_putObj' W D (.deferred none)
    refine ⟨.int .i64 (applyN a L), by simp [results, Tryd.results13, go_sem, applyN], rfl, hB.grown hh hB.size (fun k e => by cases e; simp at hD; omega)⟩
  case stop =>
    rintro D c pre W hD hpre hF
    exact hF.elim

/-- sgr.Apply. -/
theorem apply_any (B : Nat) (a : Int) (A : Option Addr) (m c : Nat) (L : List Int) (hm : m ≤ 1000) (w : World) (hI : Ints B w A m L) (hBw : B ≤ w.heap.size) :
    Calls Tryd.prog 13 #[.int .i64 a, .slice A m c] w fun e W' => e = .returned (.int .i64 (applyN a L)) ∧ Below w.heap.size w W' :=
  callsIn_wide.1 (apply_in 3 (Nat.le_refl _) B a A m c L hm w hI hBw)
end Go.Proofs.YtjfnmjgfbkcaaaaDoor
