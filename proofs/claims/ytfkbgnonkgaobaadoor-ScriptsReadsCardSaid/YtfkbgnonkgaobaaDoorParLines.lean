/- Walks: lines of scripts, an iterator over the lines of a text. -/
import Derived.Test.YtfkbgnonkgaobaaDoorParHex
import Derived.Test.YtfkbgnonkgaobaaDoorScrNumb
import Derived.Test.YtfkbgnonkgaobaaDoorRange
import Derived.OwnWalkIn
import Derived.TacticsInMore
import Derived.LoopIn
namespace Go.Proofs.YtfkbgnonkgaobaaDoor
open Go.RowKit
set_option linter.unusedSimpArgs false
set_option linter.unusedVariables false

/-- Box Bc and what lies below B stay. -/
def KeptC (Bc B : Nat) (W W' : World) : Prop := W'.heap[Bc]? = W.heap[Bc]? ∧ ∀ b, b < B → W'.heap[b]? = W.heap[b]?
theorem KeptC.trans {Bc B : Nat} {a b c : World} (h : KeptC Bc B a b) (k : KeptC Bc B b c) : KeptC Bc B a c := ⟨k.1.trans h.1, fun i hi => (k.2 i hi).trans (h.2 i hi)⟩
theorem boxed_below {W W' : World} {b : Nat} {t : TypeId} {v : Value} (h : Boxed W b t v) (hb : Below W.heap.size W W') : Boxed W' b t v := (hb.block b h.lt).trans h
theorem keepsOthers_below {W W' : World} (h : Below W.heap.size W W') : KeepsOthers W W' :=
  ⟨h.size, fun k o hk _ => by rw [h.block k (Array.getElem?_eq_some_iff.1 hk).1]; exact hk⟩

theorem idx10_any (T : ByteArray) (w : World) : Calls Tryd.prog 35 #[.string T, .int .u8 10] w fun e w' => e = .returned (.int .i64 (Lib.indexByte T.data.toList 10)) ∧ w' = w := Tryd.strings_IndexByte T 10 w

theorem lines_in (n : Nat) (T : ByteArray) (w : World) :
    CallsIn Fence.wide n Tryd.prog 24 #[.string T] w fun e w' => e = .returned (.func (.func 34) #[] #[.pointer (some ⟨w.heap.size, 0, none⟩)]) ∧ w' = w.alloc (.cells #[.string T] 9) := by
  refine callsIn_of_wp Tryd.func24 rfl trivial ?_ rfl
  simp only [Tryd.ntmps24, List.size_toArray, List.length_cons, List.length_nil, Nat.reduceAdd, Nat.reduceSub, Array.replicate_succ, Array.replicate_zero, List.push_toArray, List.append_toArray, List.nil_append, List.cons_append]
  gi_wp2
  go_ret
  exact ⟨rfl, rfl⟩

/-- How long the string in a box is. -/
def boxLen (Bc : Nat) (W : World) : Nat := match W.cell? ⟨Bc, 0, none⟩ with
  | some (.string s) => s.size
  | _ => 0
theorem boxLen_of {Bc : Nat} {W : World} {t : TypeId} {s : ByteArray} (h : Boxed W Bc t (.string s)) : boxLen Bc W = s.size := by
  unfold boxLen
  rw [h.cell]

theorem byte_nil {R : ByteArray} (h : R.size = 0) : R = ⟨#[]⟩ := by
  have h2 : R.data.size = 0 := h
  have : R.data = #[] := Array.eq_empty_of_size_eq_zero h2
  exact ByteArray.ext this
theorem empty_no {R : ByteArray} (h : R.size ≠ 0) : R.toList.isEmpty = false := by
  rw [ByteArray.toList_eq]
  cases hl : R.data.toList with
  | nil =>
    have : R.data.toList.length = 0 := by rw [hl]; rfl
    exact absurd (by simpa using this) h
  | cons c r => rfl
theorem head_run (R : ByteArray) (k : Nat) (hk : k ≤ R.size) (W : World) : Sem.run Tryd.prog (Instr.slice 9 (.string R) none (some (.int .i64 (k : Int))) none) W = .ok (.string (R.extract 0 k)) W := by
  simp [Instr.slice, go_sem, run_underlying Tryd.underlying9]
  intro h
  omega
theorem rest_run (R : ByteArray) (k : Nat) (hk : k ≤ R.size) (W : World) : Sem.run Tryd.prog (Instr.slice 9 (.string R) (some (.int .i64 (k : Int))) none none) W = .ok (.string (R.extract k R.size)) W := by
  simp [Instr.slice, go_sem, run_underlying Tryd.underlying9]
  intro h
  omega
theorem ext_head (R : ByteArray) (k : Nat) : R.extract 0 k = ⟨(R.data.toList.take k).toArray⟩ := by
  apply ByteArray.ext
  rw [ByteArray.data_extract]
  apply Array.toList_inj.1
  simp
theorem ext_rest (R : ByteArray) (k : Nat) : (R.extract k R.size).data.toList = R.data.toList.drop k := by
  rw [ByteArray.data_extract]
  simp
  rw [List.take_of_length_le]
  simp
set_option maxRecDepth 100000 in
set_option maxHeartbeats 2000000 in
theorem lines1_in (n : Nat) (hn : 1 ≤ n) (l Bc B : Nat) (T : ByteArray) (hT : T.size ≤ 20000) (J Jx : List (List UInt8) → World → Prop)
    (hJ : ∀ s A v, J s A → J s (A.setCell ⟨Bc, 0, none⟩ v))
    (hY : ∀ pre x W, J pre W → (pre ++ [x]) <+: Vz.linesOf T.data.toList → YieldAt Fence.wide (n - 1) Tryd.prog l #[.string ⟨x.toArray⟩] W fun e W' =>
      (e = .returned (.bool true) ∧ J (pre ++ [x]) W' ∧ KeptC Bc B W W') ∨ (e = .returned (.bool false) ∧ Jx (pre ++ [x]) W'))
    (W : World) (hB : Boxed W Bc 9 (.string T)) (h0 : J [] W) :
    CallsIn Fence.wide n Tryd.prog 34 #[.func (.yield l) #[] #[], .pointer (some ⟨Bc, 0, none⟩)] W fun e W' => (∃ v, e = .returned v) ∧
      ((∃ ys, ys = Vz.linesOf T.data.toList ∧ J ys W') ∨ (∃ pre, pre <+: Vz.linesOf T.data.toList ∧ Jx pre W')) := by
  have HID := Lib.hid idx10_any
  have HY := Lib.hid hY
  have HJ := Lib.hid hJ
  clear hY hJ
  refine callsIn_of_wp Tryd.func34 rfl trivial ?_ rfl
  simp only [Tryd.ntmps34, List.size_toArray, List.length_cons, List.length_nil, Nat.reduceAdd, Nat.reduceSub, Array.replicate_succ, Array.replicate_zero, List.push_toArray, List.append_toArray, List.nil_append, List.cons_append]
  gi_wp2
  gi_loopw [3] (fun i wr => ∃ (pre : List (List UInt8)) (R : ByteArray), Vz.linesOf T.data.toList = pre ++ Vz.linesOf R.data.toList ∧ R.size ≤ T.size ∧ Boxed wr Bc 9 (.string R) ∧ J pre wr) (fun _ wr => boxLen Bc wr)
  case atStart => exact ⟨[], T, rfl, Nat.le_refl _, hB, h0⟩
  case round =>
    obtain ⟨pre, R, hl, hR, hb, hj⟩ := hrel
    have hc := hb.cell
    have hf := hb.frozen
    by_cases hz : R.size = 0
    · obtain rfl := byte_nil hz
      have HB := Lib.hid hb
      clear hb
      gi_wp2
      go_end0
      refine ⟨⟨_, rfl⟩, .inl ?_⟩
      first | exact ⟨_, rfl, by rw [hl]; simpa [Vz.linesOf] using hj⟩ | simpa [Vz.linesOf] using hj
    · have hne := empty_no hz
      have hn0 : R.data.toList ≠ [] := fun h => hz (by
        have : R.data.toList.length = 0 := by rw [h]; rfl
        simpa using this)
      have hcut := Vz.linesOf_cut _ hn0
      have hcp := Vz.cutN_pos _ hn0
      have hge := Lib.indexByte_ge R.data.toList 10
      have key : ∃ i : Int, Lib.indexByte R.data.toList 10 = i ∧ ((i = -1 ∧ Vz.cutN R.data.toList = R.size) ∨ (∃ k : Nat, i = k ∧ Vz.cutN R.data.toList = k + 1 ∧ k + 1 ≤ R.size)) := by
        refine ⟨_, rfl, ?_⟩
        by_cases h1 : Lib.indexByte R.data.toList 10 = -1
        · exact .inl ⟨h1, by unfold Vz.cutN; rw [if_pos h1]; simp⟩
        · obtain ⟨k, hk⟩ := Int.eq_ofNat_of_zero_le (show 0 ≤ Lib.indexByte R.data.toList 10 by omega)
          refine .inr ⟨k, hk, by unfold Vz.cutN; rw [if_neg h1, hk]; rfl, ?_⟩
          have h2 := (Lib.indexByte_some hk).1
          obtain ⟨h3, -⟩ := List.getElem?_eq_some_iff.1 h2
          simp at h3
          omega
      obtain ⟨ix, hix, hc2⟩ := key
      have hpre : pre ++ [R.data.toList.take (Vz.cutN R.data.toList)] <+: Vz.linesOf T.data.toList := by
        rw [hl, hcut]
        exact ⟨_, by rw [List.append_assoc]; rfl⟩
      have hYY := HY.out pre _ wr hj hpre
      rw [← ext_head] at hYY
      obtain ⟨fn, tmps, assign, body, hy, hR⟩ := hYY
      have HR := Lib.hid hR
      have HN := Lib.hid hl
      have HC := Lib.hid hcut
      have HB := Lib.hid hb
      have HCP := Lib.hid hcp
      have HPRE := Lib.hid hpre
      have HIX := Lib.hid hix
      clear hl hcut hb hcp hR hpre hix hn0 hge hB h0
      rcases hc2 with ⟨rfl, hcn⟩ | ⟨k, rfl, hcn, hks⟩
      · have hs1 := head_run R R.size (Nat.le_refl _)
        have hs2 := rest_run R R.size (Nat.le_refl _)
        have hex : R.extract 0 R.size = R := by simp
        rw [hcn, hex] at hy
        rw [hcn] at HR HPRE
        rw [hex] at hs1
        have HCN := Lib.hid hcn
        clear hcn
        gi_wp2_with (refine ⟨trivial, ?_⟩; gi_at_call 35; refine (callsIn_wide.2 (HID.out R wr)).mono ?_; rintro e w' ⟨rfl, rfl⟩; rw [HIX.out])
        gi_wp2
        refine HR.out.mono ?_
        rintro e W3 (⟨rfl, hJ3, hk3⟩ | ⟨rfl, hJx3⟩)
        · have hb3 : Boxed W3 Bc 9 (.string R) := hk3.1.trans HB.out
          have hc3 := hb3.cell
          have hf3 := hb3.frozen
          have HB3 := Lib.hid hb3
          clear hk3 hb3
          gi_wp2
          refine ⟨⟨pre ++ [R.data.toList.take (R.size)], ByteArray.empty, ?_, Nat.zero_le _, HB3.out.set _, HJ.out _ _ _ hJ3⟩, ?_⟩
          · rw [HN.out, HC.out, HCN.out, List.append_assoc]
            rw [List.drop_of_length_le (by simp)]
            rfl
          · rw [boxLen_of (HB3.out.set _), boxLen_of HB.out]
            show 0 < R.size
            omega
        · gi_wp2
          refine bodyPost_ret (results_none rfl _ _ _) rfl ⟨⟨_, rfl⟩, .inr ⟨_, HPRE.out, hJx3⟩⟩
      · have hs1 := head_run R (k + 1) hks
        have hs2 := rest_run R (k + 1) hks
        rw [hcn] at hy HR HPRE
        push_cast at hs1 hs2
        have hn1 : ((k : Int) + 1 == 0) = false := by simp; omega
        have HCN := Lib.hid hcn
        clear hcn
        gi_wp2_with (refine ⟨trivial, ?_⟩; gi_at_call 35; refine (callsIn_wide.2 (HID.out R wr)).mono ?_; rintro e w' ⟨rfl, rfl⟩; rw [HIX.out])
        gi_wp2
        refine HR.out.mono ?_
        rintro e W3 (⟨rfl, hJ3, hk3⟩ | ⟨rfl, hJx3⟩)
        · have hb3 : Boxed W3 Bc 9 (.string R) := hk3.1.trans HB.out
          have hc3 := hb3.cell
          have hf3 := hb3.frozen
          have HB3 := Lib.hid hb3
          clear hk3 hb3
          gi_wp2
          refine ⟨⟨pre ++ [R.data.toList.take (k + 1)], R.extract (k + 1) R.size, ?_, by rw [ByteArray.size_extract]; omega, HB3.out.set _, HJ.out _ _ _ hJ3⟩, ?_⟩
          · rw [HN.out, HC.out, HCN.out, List.append_assoc]
            rw [ext_rest]
            rfl
          · rw [boxLen_of (HB3.out.set _), boxLen_of HB.out]
            rw [ByteArray.size_extract]
            omega
        · gi_wp2
          refine bodyPost_ret (results_none rfl _ _ _) rfl ⟨⟨_, rfl⟩, .inr ⟨_, HPRE.out, hJx3⟩⟩

theorem lines_stops (n : Nat) (hn : 1 ≤ n) (T : ByteArray) (hT : T.size ≤ 20000) (Bc B : Nat) (w : World) (hB : Boxed w Bc 9 (.string T)) :
    SeqStopsC Fence.wide n Tryd.prog 34 #[.pointer (some ⟨Bc, 0, none⟩)] (fun x : List UInt8 => #[Value.string ⟨x.toArray⟩]) Bc (KeptC Bc B) (fun ys => ys = Vz.linesOf T.data.toList) (fun pre => pre <+: Vz.linesOf T.data.toList) (fun pre x => (pre ++ [x]) <+: Vz.linesOf T.data.toList) w :=
  fun l J Jx W hW _ _ hJc _ hY h0 => lines1_in n hn l Bc B T hT J Jx hJc hY W ((hW.block Bc hB.lt).trans hB) h0
end Go.Proofs.YtfkbgnonkgaobaaDoor
