import Derived.Test.YtmgeghoalmonoaaGreatDoorAnK
import Derived.Test.YtmgeghoalmonoaaGreatDoorRangeL

/- Walks of ANSI.SYS: Feed. -/
namespace Go.Proofs.YtmgeghoalmonoaaGreatDoor
open Go.RowKit
set_option linter.unusedSimpArgs false
set_option linter.unusedVariables false
set_option maxRecDepth 100000
attribute [local go_sem] alloc_drewN setCell_drewN World.cell?_alloc_some frozen_alloc_some pos_f1

/-- Block k is no record of a loop's. -/
def NoBook (W : World) (k : Nat) : Prop := ∃ o, W.heap[k]? = some o ∧ isBook o = false
theorem Scr.nobook {W : World} {sp : Nat} {F : Nat → Prop} {S : Vz.Sr} (h : Scr W sp F S) {k : Nat} (hk : F k) : NoBook W k := by
  obtain ⟨gp, tp, mb, FG, h, hF⟩ := h
  rcases (hF k).1 hk with rfl | rfl | rfl | hk
  · exact ⟨_, h.box, rfl⟩
  · exact ⟨_, h.tabs.1, rfl⟩
  · obtain ⟨es, clock, hb, _⟩ := h.tabs.2.1
    exact ⟨_, hb, rfl⟩
  · obtain ⟨B, cap, G, K, hg, hGF⟩ := h.grid
    rcases (hGF k).1 hk with rfl | rfl | ⟨i, hi, rfl⟩
    · exact ⟨_, hg.box, rfl⟩
    · obtain ⟨c, hc, _⟩ := hg.outer
      exact ⟨_, hc, rfl⟩
    · obtain ⟨c, hc, _⟩ := hg.row i hi
      exact ⟨_, hc, rfl⟩
section
variable {w w0 w1 W W' : World} {P : Pt} {G : Nat → Prop} {A : An}
theorem AnW.nobook (h : AnW W P G A) {k : Nat} (hk : G k) : NoBook W k := by
  obtain ⟨F, v, h, hG⟩ := h
  obtain ⟨i, hi⟩ := (hG k).1 hk
  rcases hi with ⟨_, rfl⟩ | ⟨_, hk⟩ | ⟨_, rfl | rfl⟩ | ⟨_, rfl | rfl⟩ | ⟨_, rfl | hk⟩
  · exact ⟨_, h.box, rfl⟩
  · exact h.scr.nobook hk
  · obtain ⟨fr, hq⟩ := h.que; exact ⟨_, hq.box, rfl⟩
  · obtain ⟨fr, hq⟩ := h.que; obtain ⟨c, hc, _⟩ := hq.row; exact ⟨_, hc, rfl⟩
  · obtain ⟨u, o, D, hq⟩ := h.key; exact ⟨_, hq.box, rfl⟩
  · obtain ⟨u, o, D, hq⟩ := h.key; obtain ⟨es, clock, hb, _⟩ := hq.own; exact ⟨_, hb, rfl⟩
  · exact ⟨_, h.buf.2.1, rfl⟩
  · rcases h.buf.2.2.2 with ⟨rfl, _⟩ | ⟨g, cap, cur, rfl, _, hg, _⟩
    · simp [Value.ownBlock] at hk
    · have e : g = k := by simpa [Value.ownBlock] using hk
      subst e
      exact ⟨_, hg, rfl⟩
theorem AnTo.grown (h : AnTo w0 W P G A) {row : Option Nat} (hg : W.grownBy W' row) (hr : ∀ r, row = some r → w0.heap.size ≤ r ∧ ∃ o : Obj, W.heap[r]? = some o ∧ isBook o = true) (hz : 0 < w0.heap.size) : AnTo w0 W' P G A := by
  obtain ⟨⟨G', h1, h2⟩, h3⟩ := h
  refine ⟨⟨G', h1.keeps (K := fun k => row = some k) ⟨hg.os, hg.tape, hg.output, hg.size, fun k hk hn => hg.block k hk (fun e => hn e.symm)⟩ (fun k hk e => ?_) (fun e => ?_), h2⟩, ⟨hg.os.trans h3.os, hg.tape.trans h3.tape, hg.output.trans h3.output, Nat.le_trans h3.size hg.size, fun k hk hn => ?_⟩⟩
  · obtain ⟨o, ho, hb⟩ := h1.nobook hk
    obtain ⟨_, o', ho', hb'⟩ := hr k e
    rw [ho] at ho'
    injection ho' with ho'
    rw [ho', hb'] at hb
    cases hb
  · have := (hr _ e).1
    omega
  · exact (hg.block k (Nat.lt_of_lt_of_le hk h3.size) (fun e => by have := (hr k e.symm).1; omega)).trans (h3.block k hk hn)
theorem AnTo.books (h : AnTo W W' P G A) {A0 : An} (h0 : AnW W P G A0) (B : Nat) : KeepsL B W W' :=
  ⟨h.2.size, fun k o _ hk ho => (h.2.block k (block_lt hk) (fun hg => by
    obtain ⟨o', ho', hb⟩ := h0.nobook hg
    rw [hk] at ho'
    injection ho' with ho'
    rw [← ho', ho] at hb
    cases hb)).trans hk⟩
end
theorem bodyN_dims (A : An) (b : UInt8) : Dims (bodyN A b) A ∧ (bodyN A b).lost ≤ A.lost + 1 := by
  unfold bodyN
  split
  · exact ⟨⟨rfl, rfl⟩, Nat.le_succ _⟩
  · exact ⟨⟨rfl, rfl⟩, Nat.le_refl _⟩
theorem feedS_dims (S : Vz.Sr) (n : Int) : (feedS S n).D.R = S.D.R ∧ (feedS S n).D.C = S.D.C := by
  unfold feedS Vz.Gd.roll
  exact ⟨rfl, rfl⟩
theorem putC_dims (A : An) (b : UInt8) : Dims (putC A b) A := ⟨putD_R _ _ _ _ _, putD_C _ _ _ _ _⟩
theorem plainN_dims (A : An) (b : UInt8) : Dims (plainN A b) A ∧ (plainN A b).lost = A.lost := by
  unfold plainN
  split; · exact ⟨⟨rfl, rfl⟩, rfl⟩
  split; · exact ⟨⟨rfl, rfl⟩, rfl⟩
  split; · exact ⟨⟨rfl, rfl⟩, rfl⟩
  split; · exact ⟨feedS_dims _ _, rfl⟩
  split; · exact ⟨⟨rfl, rfl⟩, rfl⟩
  split; · exact ⟨⟨rfl, rfl⟩, rfl⟩
  exact ⟨putC_dims A b, rfl⟩
theorem rules_lost : ∀ r ∈ rulesA, ∀ A s, (r.2 A s).lost = A.lost := by
  have key : ∀ (f : An → List Int → An), (∀ A l, (f A l).lost = A.lost) → ∀ A s, (numA f A s).lost = A.lost := by
    intro f hf A s
    unfold numA
    split
    · exact hf _ _
    · rfl
  intro r hr A s
  simp only [rulesA, List.mem_cons, List.not_mem_nil, or_false] at hr
  rcases hr with rfl | rfl | rfl | rfl | rfl | rfl | rfl | rfl | rfl | rfl | rfl | rfl | rfl | rfl | rfl
  all_goals first
    | rfl
    | (refine key _ ?_ A s; exact fun A l => rfl)
    | (refine key _ ?_ A s; intro A l; show An.lost (if _ then _ else _) = _; split <;> rfl)
    | (show An.lost (if _ then _ else _) = _; split <;> rfl)
theorem runA_lost (b : UInt8) (s : List UInt8) (A : An) : ∀ k, (runA b s A k).lost = A.lost
  | 0 => rfl
  | k + 1 => by
    have ih := runA_lost b s A k
    cases h : rulesA[k]? with
    | none =>
      have : runA b s A (k + 1) = runA b s A k := by unfold runA; rw [List.take_add_one, h]; simp
      rw [this]; exact ih
    | some r =>
      rw [runA_succ h]
      split
      · exact (rules_lost r (List.mem_of_getElem? h) _ _).trans ih
      · exact ih
theorem seqN_dims (A : An) (b : UInt8) : Dims (seqN A b) A ∧ (seqN A b).lost ≤ A.lost + 1 := by
  cases h : endsB A b with
  | false =>
    rw [seq_no h]
    have h1 := bodyN_dims (endsN A b) b
    have h2 : Dims (endsN A b) A ∧ (endsN A b).lost = A.lost := by unfold endsN; split <;> split <;> exact ⟨⟨rfl, rfl⟩, rfl⟩
    exact ⟨h1.1.trans h2.1, by rw [← h2.2]; exact h1.2⟩
  | true =>
    rw [(seq_yes h).2]
    split
    · exact ⟨⟨rfl, rfl⟩, Nat.zero_le _⟩
    · rw [← run_end]
      exact ⟨(runA_dims b A.body (dropN A) 15).trans ⟨rfl, rfl⟩, by rw [runA_lost]; exact Nat.zero_le _⟩
theorem takeN_dims (A : An) (b : UInt8) : Dims (takeN A b) A ∧ (takeN A b).lost ≤ A.lost + 1 := by
  unfold takeN
  split; · exact ⟨⟨rfl, rfl⟩, Nat.zero_le _⟩
  split; · exact ⟨⟨rfl, rfl⟩, Nat.le_succ _⟩
  split; · exact seqN_dims A b
  have := plainN_dims { A with st := 0 } b
  exact ⟨this.1.trans ⟨rfl, rfl⟩, by rw [this.2]; exact Nat.le_succ _⟩
theorem feedN_dims : ∀ (l : List UInt8) (A : An), Dims (feedN A l) A ∧ (feedN A l).lost ≤ A.lost + l.length
  | [], A => ⟨⟨rfl, rfl⟩, Nat.le_refl _⟩
  | b :: l, A => by
    have h1 := feedN_dims l (takeN A b)
    have h2 := takeN_dims A b
    exact ⟨h1.1.trans h2.1, by simp only [feedN, List.length_cons]; omega⟩
theorem feedN_snoc (A : An) (l : List UInt8) (b : UInt8) : feedN A (l ++ [b]) = takeN (feedN A l) b := feedN_append A l [b]
theorem AnW.state {w : World} {P : Pt} {G : Nat → Prop} {A : An} (h : AnW w P G A) (z : Int) : AnTo w (w.setCell ⟨P.tp, 7, none⟩ (.int .i64 z)) P G { A with st := z } :=
  h.boxed (A' := { A with st := z }) rfl rfl rfl rfl rfl rfl (heap_set_same h.box 7 (.int .i64 z)) (Keeps.setCell (fun k => k = P.tp) w (p := ⟨P.tp, 7, none⟩) rfl (.int .i64 z))
theorem countedN_in (n : Nat) (s : ByteArray) (w : World) :
    CallsIn Fence.wide n Tryz.prog 26 #[.string s] w fun e w' => e = .returned (.func (.func 45) #[] #[.pointer (some ⟨w.heap.size, 0, none⟩)]) ∧ w' = w.alloc (.cells #[.string s] 9) := by
  refine callsIn_of_wp Tryz.func26 rfl trivial ?_ rfl
  simp only [Tryz.ntmps26, List.size_toArray, List.length_cons, List.length_nil, Nat.reduceAdd, Nat.reduceSub, Array.replicate_succ, Array.replicate_zero, List.push_toArray, List.append_toArray, List.nil_append, List.cons_append]
  gi_wp2
  go_ret
  exact ⟨rfl, rfl⟩
/-- The box of the text stays. -/
def KeptB (Bc : Nat) (W W' : World) : Prop := W'.heap[Bc]? = W.heap[Bc]?
set_option maxHeartbeats 1000000 in
theorem countedN_stops (n : Nat) (hn : 1 ≤ n) (Bc : Nat) (s : ByteArray) (hs : s.size ≤ 100000) (w : World) (hB : Boxed w Bc 9 (.string s)) :
    SeqStopsL Fence.wide n Tryz.prog 45 #[.pointer (some ⟨Bc, 0, none⟩)] (fun x : UInt8 => #[Value.int .u8 (x.toNat : Int)]) (KeptB Bc) (fun ys => ys = s.data.toList) (fun pre x => (pre ++ [x]) <+: s.data.toList) w := by
  intro l J W hW hY h0
  have hB1 : Boxed W Bc 9 (.string s) := (hW.block Bc hB.lt).trans hB
  have HB := Lib.hid hB1
  have hc0 := hB1.cell
  have hlen : s.data.toList.length = s.size := rfl
  clear hB hB1 hW
  refine callsIn_of_wp Tryz.func45 rfl trivial ?_ rfl
  simp only [Tryz.ntmps45, List.size_toArray, List.length_cons, List.length_nil, Nat.reduceAdd, Nat.reduceSub, Array.replicate_succ, Array.replicate_zero, List.push_toArray, List.append_toArray, List.nil_append, List.cons_append]
  gi_wp2
  gi_loopw [6] (fun i wr => ∃ k : Nat, k ≤ s.size ∧ i = .int .i64 k ∧ J (s.data.toList.take k) wr ∧ Boxed wr Bc 9 (.string s)) (fun i _ => s.size - (intOf i).toNat)
  case atStart => exact ⟨0, Nat.zero_le _, rfl, h0, HB.out⟩
  case round =>
    obtain ⟨k, hk, rfl, hj, hb⟩ := hrel
    have hc := hb.cell
    by_cases hlt : k < s.size
    · have hz : (k : Int) < (s.size : Int) := by omega
      have hz0 : (0 : Int) ≤ (k : Int) := by omega
      have hwk : IntKind.i64.wrap ((k : Int) + 1) = ((k + 1 : Nat) : Int) := by rw [wrap_in (by omega) (by omega)]; rfl
      have hkl : k < s.data.toList.length := hlt
      have htk : s.data.toList.take k ++ [s[k]'hlt] = s.data.toList.take (k + 1) := by rw [List.take_add_one, List.getElem?_eq_getElem hkl]; rfl
      obtain ⟨fn, tmps, assign, body, hy, hR⟩ := hY (s.data.toList.take k) (s[k]'hlt) wr hj (by rw [htk]; exact List.take_prefix _ _)
      rw [htk] at hR
      have HR := Lib.hid hR
      have HBB := Lib.hid hb
      clear hR hY htk hkl hj hb
      gi_wp2
      refine HR.out.mono ?_
      rintro e W3 ⟨rfl, hJ3, hk3⟩
      have HJ := Lib.hid hJ3
      have HK := Lib.hid hk3
      clear hJ3 hk3
      gi_wp2
      go_roundw
      case rel => exact ⟨k + 1, by omega, by go_num, HJ.out, HK.out.trans HBB.out⟩
      case measure => simp [intOf]; omega
    · obtain rfl : k = s.size := by omega
      have HJ := Lib.hid hj
      clear hj hY
      gi_wp2
      go_end0
      exact ⟨⟨_, rfl⟩, _, rfl, by have := HJ.out; rwa [List.take_of_length_le (by rw [hlen]; exact Nat.le_refl _)] at this⟩
end Go.Proofs.YtmgeghoalmonoaaGreatDoor
