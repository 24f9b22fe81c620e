/- Walks: params.parts: its iterator keeps what is left of the text in a captured box. -/
import Derived.Test.YtdakiocgaihcnaaCut
import Derived.Test.YtdakiocgaihcnaaRange
import Derived.RangeFuncBox
import Derived.RangeFuncNested
import Derived.RangeFuncBound
import Derived.RangeFuncCalls
import Derived.RangeFuncLeaves
import Derived.Shelf.Abstract
import Derived.Shelf.RegionOpen
import Derived.OwnWalkIn
import Derived.TacticsInMore
import Derived.LoopNIn
import Derived.LoopIn
namespace Go.Proofs.Ytdakiocgaihcnaa
open Go.RowKit Go.Shelf
attribute [local go_sem] Oper.semAt_some

/-- A draw is a step that turns no block. -/
theorem abides_drewN {β : Type} {B : Nat} {J : β → World → Prop} (h : AbidesFrom B J) {s : β} {W : World} (hj : J s W) (q : Nat) : J s (W.drewN q) :=
  h s W (W.drewN q) none hj ⟨rfl, rfl, rfl, Nat.le_refl _, fun _ _ _ => rfl⟩ (fun _ e => by cases e)

/-- How much is left, read off the slot and the box. -/
def leftIn (B : Nat) (m : Value) (W : World) : Nat :=
  match m, W.cell? ⟨B, 0, none⟩ with
  | .bool true, some (.string t) => t.size + 1
  | _, _ => 0

theorem leftIn_true {B : Nat} {W : World} {t : ByteArray} (h : W.cell? ⟨B, 0, none⟩ = some (.string t)) : leftIn B (.bool true) W = t.size + 1 := by
  unfold leftIn; rw [h]
theorem leftIn_lt {B : Nat} {W W' : World} {t t' : ByteArray} {b : Bool} (h : W.cell? ⟨B, 0, none⟩ = some (.string t)) (h' : W'.cell? ⟨B, 0, none⟩ = some (.string t')) (hlt : b = true → t'.size < t.size) : leftIn B (.bool b) W' < leftIn B (.bool true) W := by
  rw [leftIn_true h]; cases b
  · simp [leftIn]
  · rw [leftIn_true h']; have := hlt rfl; omega

set_option maxRecDepth 100000 in
set_option maxHeartbeats 1000000 in
theorem parts1_in (n : Nat) (hn : 1 ≤ n) (l Bc : Nat) (s : ByteArray) (hs : s.size ≤ maxLen) (J Jx : List ByteArray → World → Prop) (B0 : Nat) (hJ : AbidesFrom B0 J)
    (hJc : ∀ s A v, J s A → J s (A.setCell ⟨Bc, 0, none⟩ v))
    (hY : ∀ pre x W, J pre W → (pre ++ [x]) <+: Vz.partsB s.data.toList → YieldAt Fence.wide (n - 1) Try.prog l #[.string x] W fun e W' =>
      (e = .returned (.bool true) ∧ J (pre ++ [x]) W' ∧ W'.heap[Bc]? = W.heap[Bc]?) ∨ (e = .returned (.bool false) ∧ Jx (pre ++ [x]) W'))
    (W : World) (hB : Boxed W Bc 9 (.string s)) (h0 : J [] W) :
    CallsIn Fence.wide n Try.prog 25 #[.func (.yield l) #[] #[], .pointer (some ⟨Bc, 0, none⟩)] W fun e W' => (∃ v, e = .returned v) ∧
      ((∃ ys, ys = Vz.partsB s.data.toList ∧ J ys W') ∨ (∃ pre, pre <+: Vz.partsB s.data.toList ∧ Jx pre W')) := by
  have hc0 := hB.cell
  refine callsIn_of_wp Try.func25 rfl trivial ?_ rfl
  simp only [Try.ntmps25, List.size_toArray, List.length_cons, List.length_nil, Nat.reduceAdd, Nat.reduceSub, Array.replicate_succ, Array.replicate_zero, List.push_toArray, List.append_toArray, List.nil_append, List.cons_append]
  gi_wp2
  gi_loopw [3] (fun m wr => ∃ (pre : List ByteArray) (t : ByteArray) (b : Bool), m = .bool b ∧ Boxed wr Bc 9 (.string t) ∧ t.size ≤ maxLen ∧ J pre wr ∧ Vz.partsB s.data.toList = pre ++ (if b = true then (Vz.splitC 59 t.data.toList).map (fun l => (⟨l.toArray⟩ : ByteArray)) else []))
    (fun m wr => leftIn Bc m wr)
  case atStart =>
    refine ⟨[], s, !s.toList.isEmpty, rfl, hB, hs, h0, ?_⟩
    unfold Vz.partsB
    rw [ByteArray.toList_eq]
    cases s.data.toList <;> simp
  case round =>
    obtain ⟨pre, t, b, rfl, hBt, ht, hj, hx⟩ := hrel
    have hct := hBt.cell
    have hft := hBt.frozen
    have HX := Lib.hid hx
    clear hx
    cases b with
    | false =>
      gi_wp2
      go_end0
      exact ⟨⟨_, rfl⟩, .inl ⟨pre, by have := HX.out; simpa using this.symm, hj⟩⟩
    | true =>
      have hxs := HX.out
      rw [if_pos rfl, Vz.partsB_cut] at hxs
      have HXS := Lib.hid hxs
      have hlen : (pre ++ [⟨(Vz.cutC 59 t.data.toList).1.toArray⟩]) <+: Vz.partsB s.data.toList := ⟨_, by rw [hxs, List.append_assoc]; rfl⟩
      have HL := Lib.hid hlen
      clear hxs hlen
      gi_wp2_with (refine ⟨trivial, ?_⟩; gi_at_call 26; refine (callsIn_wide.2 (cut_any t 59 _ ht)).mono ?_; rintro e w' ⟨rfl, q, rfl⟩; obtain ⟨fn, tmps, assign, body, hy, hR⟩ := hY pre ⟨(Vz.cutC 59 t.data.toList).1.toArray⟩ ((wr.drewN q).setCell ⟨Bc, 0, none⟩ (.string ⟨(Vz.cutC 59 t.data.toList).2.1.toArray⟩)) (hJc _ _ _ (abides_drewN hJ hj q)) HL.out)
      refine hR.mono ?_
      have hB2 : Boxed ((wr.drewN q).setCell ⟨Bc, 0, none⟩ (.string ⟨(Vz.cutC 59 t.data.toList).2.1.toArray⟩)) Bc 9 (.string ⟨(Vz.cutC 59 t.data.toList).2.1.toArray⟩) := Boxed.set (W := wr.drewN q) _ hBt
      have hsz : (Vz.cutC 59 t.data.toList).2.2 = true → (⟨(Vz.cutC 59 t.data.toList).2.1.toArray⟩ : ByteArray).size < t.size := fun h => by
        have := Vz.cutC_size 59 t.data.toList h
        rw [Lib.size_eq t]; show (Vz.cutC 59 t.data.toList).2.1.toArray.size < _; simpa using this
      have hsm : (⟨(Vz.cutC 59 t.data.toList).2.1.toArray⟩ : ByteArray).size ≤ maxLen := by
        cases h : (Vz.cutC 59 t.data.toList).2.2
        · rw [Vz.cutC_nil _ _ h]; exact Nat.zero_le _
        · have := hsz h; omega
      have HS := Lib.hid hsz
      have HM := Lib.hid hsm
      clear hsz hsm hY hJ hJc
      rintro e W3 (⟨rfl, hJ3, hk3⟩ | ⟨rfl, hJx3⟩)
      · have hB3 : Boxed W3 Bc 9 (.string ⟨(Vz.cutC 59 t.data.toList).2.1.toArray⟩) := hk3.trans hB2
        have HK := Lib.hid hk3
        clear hk3
        gi_wp2
        go_roundw
        case rel => exact ⟨_, _, _, rfl, hB3, HM.out, hJ3, by rw [HXS.out, List.append_assoc]; rfl⟩
        case measure => exact leftIn_lt hct hB3.cell HS.out
      · gi_wp2
        refine bodyPost_ret (results_none rfl _ _ _) rfl ?_
        exact ⟨⟨_, rfl⟩, .inr ⟨_, ⟨_, by rw [HXS.out, List.append_assoc]; rfl⟩, hJx3⟩⟩

set_option maxHeartbeats 1000000 in
theorem parts_in (n : Nat) (s : ByteArray) (w : World) :
    CallsIn Fence.wide n Try.prog 22 #[.string s] w fun e w' => e = .returned (.func (.func 25) #[] #[.pointer (some ⟨w.heap.size, 0, none⟩)]) ∧ w' = w.alloc (.cells #[.string s] 9) := by
  refine callsIn_of_wp Try.func22 rfl trivial ?_ rfl
  simp only [Try.ntmps22, List.size_toArray, List.length_cons, List.length_nil, Nat.reduceAdd, Nat.reduceSub, Array.replicate_succ, Array.replicate_zero, List.push_toArray, List.append_toArray, List.nil_append, List.cons_append]
  gi_wp2
  go_ret
  exact ⟨rfl, rfl⟩

theorem parts_stops (n : Nat) (hn : 1 ≤ n) (s : ByteArray) (hs : s.size ≤ maxLen) (Bc : Nat) (w : World) (hB : Boxed w Bc 9 (.string s)) :
    SeqStopsC Fence.wide n Try.prog 25 #[.pointer (some ⟨Bc, 0, none⟩)] (fun x : ByteArray => #[Value.string x]) Bc (fun W W' => W'.heap[Bc]? = W.heap[Bc]?) (fun ys => ys = Vz.partsB s.data.toList) (fun pre => pre <+: Vz.partsB s.data.toList) (fun pre x => (pre ++ [x]) <+: Vz.partsB s.data.toList) w :=
  fun l J Jx W hW hJ _ hJc _ hY h0 => parts1_in n hn l Bc s hs J Jx _ hJ hJc hY W ((hW.block Bc hB.lt).trans hB) h0

end Go.Proofs.Ytdakiocgaihcnaa
