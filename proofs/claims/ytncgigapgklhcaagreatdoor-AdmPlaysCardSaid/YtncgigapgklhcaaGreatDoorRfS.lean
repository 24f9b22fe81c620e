import Derived.Test.YtncgigapgklhcaaGreatDoorJG
import Derived.Deep.QuietTactic
import Derived.BigQuiet

/- The walk of the law's same, where the world is the document's: it answers true. -/
namespace Go.Proofs.YtncgigapgklhcaaGreatDoor
open Go.RowKit
set_option linter.unusedSimpArgs false
set_option linter.unusedVariables false
set_option maxRecDepth 100000
attribute [local go_sem] alloc_drewN setCell_drewN World.cell?_alloc_some frozen_alloc_some size_f0 size_f1

theorem run_neq_self (g a m : Int) (d : Bool) (w : World) : Sem.run Tryz.prog (binOp .neq 56 (.agg #[.int .i32 g, .int .i64 a, .bool d, .int .i64 m]) (.agg #[.int .i32 g, .int .i64 a, .bool d, .int .i64 m])) w = .ok (.bool false) w := by
 have h := run_neq_cell ⟨g, a, d, m⟩ ⟨g, a, d, m⟩ w
 rw [eqC_iff.2 rfl] at h
 exact h
theorem run_neqt_self (s : ByteArray) (w : World) : Sem.run Tryz.prog (binOp .neq 9 (.string s) (.string s)) w = .ok (.bool false) w := by go_simp
attribute [local go_sem 3000] run_neq_self run_neqt_self
theorem RowsAt.cell4 {B : Nat} {W : World} {OB : Nat} {D : Vz.Gd} {G K : Nat → Nat} (h : RowsAt B W OB D G K) {i j : Nat} (hi : i < D.R) (hj : j < D.C) : W.cell? ⟨OB, i, none⟩ = some (.slice (some ⟨G i, 0, none⟩) D.C (K i)) ∧ W.cell? ⟨G i, j * 4, none⟩ = some (.int .i32 (D.X i j).g) ∧ W.cell? ⟨G i, j * 4 + 1, none⟩ = some (.int .i64 (D.X i j).a) ∧ W.cell? ⟨G i, j * 4 + 2, none⟩ = some (.bool (D.X i j).gd) ∧ W.cell? ⟨G i, j * 4 + 3, none⟩ = some (.int .i64 (D.X i j).m) := by
 have hr := h.row i hi
 refine ⟨h.outer.cell hi, ?_, ?_, ?_, ?_⟩
 · rw [hr.cell (show j * 4 < D.C * 4 by omega), Nat.mul_comm j 4, Vz.flatC_0]
 · rw [hr.cell (show j * 4 + 1 < D.C * 4 by omega), Nat.mul_comm j 4, Vz.flatC_1]
 · rw [hr.cell (show j * 4 + 2 < D.C * 4 by omega), Nat.mul_comm j 4, Vz.flatC_2]
 · rw [hr.cell (show j * 4 + 3 < D.C * 4 by omega), Nat.mul_comm j 4, Vz.flatC_3]
theorem que_len {qp lb fr : Nat} {q : List UInt8} {over : Bool} {w : World} (h : QueAt w qp lb fr q over) : Calls Tryz.prog 41 #[.pointer (some ⟨qp, 0, none⟩)] w fun e w' => e = .returned (.int .i64 (q.length : Int)) ∧ w' = w := by
 obtain ⟨c0, c1, c2, c3, _⟩ := row4q h
 clear h
 go_enter Tryz.func41, Tryz.ntmps41
 go_wp2_with fail
 go_ret
 exact ⟨rfl, rfl⟩
theorem que_over {qp lb fr : Nat} {q : List UInt8} {over : Bool} {w : World} (h : QueAt w qp lb fr q over) : Calls Tryz.prog 42 #[.pointer (some ⟨qp, 0, none⟩)] w fun e w' => e = .returned (.bool over) ∧ w' = w := by
 obtain ⟨c0, c1, c2, c3, _⟩ := row4q h
 clear h
 go_enter Tryz.func42, Tryz.ntmps42
 go_wp2_with fail
 go_ret
 exact ⟨rfl, rfl⟩
/-- How many stops there are ahead of a column. -/
def cntT (T : Nat → Bool) : Nat → Nat
 | 0 => 0
 | k + 1 => cntT T k + if T k = true then 1 else 0
theorem cntT_le (T : Nat → Bool) : ∀ k, cntT T k ≤ k
 | 0 => Nat.le_refl _
 | k + 1 => by
   have := cntT_le T k
   unfold cntT
   split <;> omega
theorem stops_cnt (C : Nat) (T T' : Nat → Bool) (h : ∀ c, c < C → T c = T' c) : (stopsI C T).length = cntT T' C := by
 unfold stopsI Vz.stopsL
 rw [List.length_map]
 induction C with
 | zero => rfl
 | succ n ih =>
   rw [List.range_succ, List.filter_append, List.length_append, ih fun c hc => h c (by omega), List.filter_cons, h n (Nat.lt_succ_self n)]
   show cntT T' n + _ = cntT T' n + if T' n = true then 1 else 0
   cases T' n <;> rfl
theorem stops_at (C : Nat) (T T' : Nat → Bool) (h : ∀ c, c < C → T c = T' c) (k : Nat) (hk : k < (stopsI C T).length) : ∃ c : Nat, (stopsI C T).getD k 0 = (c : Int) ∧ c < C ∧ T' c = true := by
 have hm : (stopsI C T)[k] ∈ stopsI C T := List.getElem_mem hk
 have e : (stopsI C T).getD k 0 = (stopsI C T)[k] := by simp [List.getD, List.getElem?_eq_getElem hk]
 rw [e]
 generalize (stopsI C T)[k] = x at *
 unfold stopsI Vz.stopsL at hm
 obtain ⟨c, hc, rfl⟩ := List.mem_map.1 hm
 obtain ⟨h1, h2⟩ := List.mem_filter.1 hc
 have hlt := List.mem_range.1 h1
 exact ⟨c, rfl, hlt, by rw [← h c hlt]; exact h2⟩
/-- What the walk wants of the terminal. -/
structure SameT (w W : World) (sp qp tp : Nat) (r : Rf) : Prop where
 cur : ∀ W', Below W.heap.size W W' → Calls Tryz.prog 14 #[.pointer (some ⟨sp, 0, none⟩)] W' fun e w' => e = .returned (.tuple #[.agg #[.int .i64 (r.row : Int), .int .i64 (r.col : Int)], .bool false]) ∧ Below W'.heap.size W' w'
 modes : ∀ W', Below W.heap.size W W' → Calls Tryz.prog 19 #[.pointer (some ⟨tp, 0, none⟩)] W' fun e w' => e = .returned (.agg #[.bool r.gd, .bool r.pr]) ∧ Below W'.heap.size W' w'
 attr : ∀ W', Below W.heap.size W W' → Calls Tryz.prog 20 #[.pointer (some ⟨tp, 0, none⟩)] W' fun e w' => e = .returned (.int .i64 r.attr) ∧ w' = W'
 pend : ∀ W', Below W.heap.size W W' → Calls Tryz.prog 21 #[.pointer (some ⟨tp, 0, none⟩)] W' fun e w' => e = .returned (.string ⟨r.seq.toArray⟩) ∧ w' = W'
 len : ∀ W', Below W.heap.size W W' → Calls Tryz.prog 41 #[.pointer (some ⟨qp, 0, none⟩)] W' fun e w' => e = .returned (.int .i64 (r.q.length : Int)) ∧ w' = W'
 over : ∀ W', Below W.heap.size W W' → Calls Tryz.prog 42 #[.pointer (some ⟨qp, 0, none⟩)] W' fun e w' => e = .returned (.bool r.over) ∧ w' = W'
 rows : ∀ W', Below W.heap.size W W' → Calls Tryz.prog 23 #[.pointer (some ⟨sp, 0, none⟩)] W' fun e w' => ∃ OB G K D, e = .returned (.slice (some ⟨OB, 0, none⟩) r.R r.R) ∧ RowsAt W'.heap.size w' OB D G K ∧ (D.R = r.R ∧ D.C = r.C ∧ ∀ i j, i < r.R → j < r.C → D.X i j = r.F (i * r.C + j)) ∧ Below W'.heap.size W' w'
 listed : ∀ W', Below W.heap.size W W' → Calls Tryz.prog 43 #[.pointer (some ⟨sp, 0, none⟩)] W' fun e w' => ∃ (A1 : Option Addr) (cap : Nat), e = .returned (.slice A1 (cntT r.T r.C) cap) ∧ (∀ k, k < cntT r.T r.C → ∃ c g : Nat, c < r.C ∧ r.T c = true ∧ A1 = some ⟨g, 0, none⟩ ∧ w'.cell? ⟨g, k, none⟩ = some (.int .i64 (c : Int))) ∧ Below W'.heap.size W' w'
theorem same_of {w W : World} {tp sp qp : Nat} {A : Ad} {r : Rf} {FT : Nat → Prop} (h : Term W tp sp qp FT A) (hR : Rel A r) : SameT w W sp qp tp r := by
 refine ⟨fun W' hb => ?_, fun W' hb => ?_, fun W' hb => ?_, fun W' hb => ?_, fun W' hb => ?_, fun W' hb => ?_, fun W' hb => ?_, fun W' hb => ?_⟩
 · obtain ⟨lb, fr, F, V, h2, hF⟩ := h.below hb
   have := scr_cursor sp F A.S W' h2.scr
   rw [hR.pl] at this
   exact this
 · have := tm_modes (h.below hb)
   rw [hR.gd, hR.pr] at this
   exact this
 · have := tm_attr (h.below hb)
   rw [hR.attr] at this
   exact this.mono fun e w' g => ⟨g.1, g.2.symm⟩
 · have := tm_pending (h.below hb)
   rw [hR.seq] at this
   exact this.mono fun e w' g => ⟨g.1, g.2.symm⟩
 · obtain ⟨lb, fr, F, V, h2, hF⟩ := h.below hb
   have := que_len h2.que
   rw [hR.q] at this
   exact this
 · obtain ⟨lb, fr, F, V, h2, hF⟩ := h.below hb
   have := que_over h2.que
   rw [hR.over] at this
   exact this
 · obtain ⟨lb, fr, F, V, h2, hF⟩ := h.below hb
   refine (scr_rows sp F A.S W' h2.scr).mono ?_
   rintro e w' ⟨OB, G, K, rfl, h3, h4⟩
   exact ⟨OB, G, K, A.S.D, by rw [hR.R], h3, ⟨hR.R, hR.C, hR.X⟩, h4⟩
 · obtain ⟨lb, fr, F, V, h2, hF⟩ := h.below hb
   refine (scr_listed sp F A.S W' h2.scr).mono ?_
   rintro e w' ⟨v, rfl, h3, -, h4⟩
   have hT := hR.T
   rw [← hR.C] at hT
   have hc := stops_cnt _ _ _ hT
   have ha := stops_at _ _ _ hT
   rw [hR.C] at hc ha h3
   have hv := listed_of h3
   rcases hv with ⟨rfl, hz⟩ | ⟨g, cap, rfl, hg⟩
   · exact ⟨none, 0, by rw [← hc, hz]; rfl, fun k hk => absurd hk (by rw [← hc, hz]; exact Nat.not_lt_zero _), h4⟩
   · refine ⟨_, cap, by rw [← hc], fun k hk => ?_, h4⟩
     rw [← hc] at hk
     obtain ⟨c, e1, e2, e3⟩ := ha k hk
     refine ⟨c, g, e2, e3, rfl, hg k _ ?_⟩
     rw [List.getElem?_eq_getElem hk, ← e1]
     simp [List.getD, List.getElem?_eq_getElem hk]
set_option maxHeartbeats 32000000 in
theorem same_ok {W : World} {wp tp sp qp rp lb cap sb : Nat} {r : Rf} (hbx : boxL W wp tp sp qp) (ht : SameT W W sp qp tp r) (hr : RfAt W rp lb cap sb r) (hm : r.may) (hq : r.q.length ≤ 20) : Calls Tryz.prog 27 #[.pointer (some ⟨wp, 0, none⟩), .pointer (some ⟨rp, 0, none⟩)] W fun e w' => e = .returned (.bool true) ∧ Below W.heap.size W w' := by
 have hn := hm.n
 obtain ⟨n, hnn⟩ : ∃ n, r.R * r.C = n := ⟨_, rfl⟩
 have HT := Lib.hid ht
 have HBX := Lib.hid (fun W' (hb : Below W.heap.size W W') => row3 ((hb.block _ (block_lt hbx)).trans hbx))
 have HRC := Lib.hid (fun W' (hb : Below W.heap.size W W') => (hr.below hb).cellsN hnn)
 have HAT := Lib.hid (fun W' (hb : Below W.heap.size W W') k (hk : k < n) => ((hr.below hb).at_ (k := k) (by rw [hnn]; exact hk)).1)
 have HST := Lib.hid (fun W' (hb : Below W.heap.size W W') c (hc : c < r.C) => (hr.below hb).stop hc)
 have HB0 : Hid (Below W.heap.size W W) := Below.refl _ _
 obtain ⟨Q, hQ⟩ : ∃ Q : ByteArray, (⟨r.q.toArray⟩ : ByteArray) = Q := ⟨_, rfl⟩
 have hQs : (Q.size : Int) = (r.q.length : Int) := by rw [← hQ]; simp [ByteArray.size]
 obtain ⟨ql, hql⟩ : ∃ ql, r.q.length = ql := ⟨_, rfl⟩
 obtain ⟨SQ, hSQ⟩ : ∃ SQ : ByteArray, (⟨r.seq.toArray⟩ : ByteArray) = SQ := ⟨_, rfl⟩
 have HQ := Lib.hid hQ
 have HQL := Lib.hid hql
 have HSQ := Lib.hid hSQ
 have HNN := Lib.hid hnn
 have HM := Lib.hid hm
 obtain ⟨m1, m2, m3, m4, m5, m6⟩ := hm
 rw [hql] at hQs hq
 rw [hnn] at hn
 obtain ⟨x0, x1, x2, _⟩ := HBX.out _ HB0.out
 clear hbx ht hr hnn hQ hql hSQ m5 m6
 go_enter Tryz.func27, Tryz.ntmps27
 go_upto_region 3 with (first
  | (go_at_call 19; refine (HT.out.modes _ HB1.out).mono ?_; rintro e w2 ⟨rfl, hb2⟩; have HB2 := Lib.hid (Below.later HB1.out hb2 HB1.out.size); have HP1 := Lib.hid ((hb2.block _ (block_lt HP0.out)).trans HP0.out); clear hb2)
  | (go_at_call 14; refine (HT.out.cur _ HB0.out).mono ?_; rintro e w1 ⟨rfl, hb1⟩; have HB1 := Lib.hid (hb1.alloc hb1.size (.cells #[.int .i64 (r.row : Int), .int .i64 (r.col : Int)] 36)); have HP0 := Lib.hid (heap_alloc_new w1 (.cells #[.int .i64 (r.row : Int), .int .i64 (r.col : Int)] 36)); clear x0 x1 x2; obtain ⟨x0, x1, x2, _⟩ := HBX.out _ HB1.out; clear hb1))
 clear x0 x1 x2
 have HP2 := Lib.hid ((Below.heap_alloc w2 (.cells #[.bool r.gd, .bool r.pr] 45) _ (block_lt HP1.out)).trans HP1.out)
 have HM2 := Lib.hid (heap_alloc_new w2 (.cells #[.bool r.gd, .bool r.pr] 45))
 have HB3 := Lib.hid (HB2.out.alloc HB2.out.size (.cells #[.bool r.gd, .bool r.pr] 45))
 generalize hw3 : w2.alloc (.cells #[.bool r.gd, .bool r.pr] 45) = w3 at *
 clear hw3
 have HW3 := Lib.hid (fun W' (hb : Below w3.heap.size w3 W') => Below.later HB3.out hb HB3.out.size)
 have HLEN : Hid (∀ W', Below w3.heap.size w3 W' → Calls Tryz.prog 41 #[.pointer (some ⟨qp, 0, none⟩)] W' fun e w' => e = .returned (.int .i64 (ql : Int)) ∧ w' = W') := fun W' hb => by have := HT.out.len W' (HW3.out _ hb); rw [HQL.out] at this; exact this
 have HPEN : Hid (∀ W', Below w3.heap.size w3 W' → Calls Tryz.prog 21 #[.pointer (some ⟨tp, 0, none⟩)] W' fun e w' => e = .returned (.string SQ) ∧ w' = W') := fun W' hb => by have := HT.out.pend W' (HW3.out _ hb); rw [HSQ.out] at this; exact this
 have HATT := Lib.hid (fun W' (hb : Below w3.heap.size w3 W') => HT.out.attr W' (HW3.out _ hb))
 have HOVE := Lib.hid (fun W' (hb : Below w3.heap.size w3 W') => HT.out.over W' (HW3.out _ hb))
 have HBR : Hid (Below w3.heap.size w3 w3) := Below.refl _ _
 obtain ⟨x0, x1, x2, -⟩ := HBX.out _ HB3.out
 obtain ⟨p0, p1, -⟩ := row2 HP2.out
 obtain ⟨o0, o1, -⟩ := row2 HM2.out
 obtain ⟨⟨-, -, -, y3, y4, -, y6, y7, y8, y9, y10, -, y12⟩, -⟩ := HRC.out _ HB3.out
 rw [HSQ.out] at y9
 rw [HQ.out] at y10
 simp only [List.append_eq, List.cons_append, List.nil_append]
 have HDN := Lib.hid (fun m => below_drewN (Below.refl w3.heap.size w3) m)
 go_quiet (first
  | (go_at_call 20; exact Calls.quiet_of_same (HATT.out _ (HDN.out _)))
  | (go_at_call 21; exact Calls.quiet_of_same (HPEN.out _ (HDN.out _)))
  | (go_at_call 41; exact Calls.quiet_of_same (HLEN.out _ (HDN.out _)))
  | (go_at_call 42; exact Calls.quiet_of_same (HOVE.out _ (HDN.out _))))
 as_aux_lemma =>
  have HS79 := Lib.hid (HW3.out _ (HDN.out nq))
  clear x1 x2 p0 p1 o0 o1 y3 y4 y6 y7 y8 y9 y10 y12
  go_wp2_with (go_at_call 23; refine (HT.out.rows _ HS79.out).mono ?_; rintro e w9 ⟨OB, G, K, D, rfl, hra, hD, hb9⟩; have HRA := Lib.hid hra; have HD := Lib.hid hD; have HB9 := Lib.hid (Below.later HS79.out hb9 HS79.out.size); clear hra hD hb9)
  clear x0
  have HBR0 : Hid (Below w9.heap.size w9 w9) := Below.refl _ _
  have HW9 := Lib.hid (fun W' (hb : Below w9.heap.size w9 W') => Below.later HB9.out hb HB9.out.size)
  have HRW := Lib.hid (fun W' (hb : Below w9.heap.size w9 W') => HRA.out.below hb)
  have hz0 : r.R * r.C = n := HNN.out
  have HN2 : Hid (∀ a, a < r.R → a * r.C + r.C ≤ n) := fun a ha => by
   rw [← HNN.out, ← Nat.succ_mul]
   exact Nat.mul_le_mul_right _ ha
  clear hz0
  go_loopw [8, 10] (fun u i wr => ∃ a s : Nat, a ≤ r.R ∧ Hid (s = a * r.C) ∧ s ≤ n ∧ u = .int .i64 (s : Int) ∧ i = .int .i64 (a : Int) ∧ Below w9.heap.size w9 wr) (fun _ i _ => r.R - (intOf i).toNat)
  case atStart => exact ⟨0, 0, Nat.zero_le _, Lib.hid (by rw [Nat.zero_mul]), Nat.zero_le _, rfl, rfl, HBR0.out⟩
  case round =>
   obtain ⟨a, s, ha, hs, hsn, rfl, rfl, hbr⟩ := hrel
   have HBR := Lib.hid hbr
   clear hbr
   by_cases hlt : a < r.R
   · have hkz : (a : Int) < (r.R : Int) := by omega
     have hwk : IntKind.i64.wrap ((a : Int) + 1) = ((a + 1 : Nat) : Int) := by rw [wrap_in (by omega) (by omega)]; rfl
     go_wp2_with fail
     go_loopw [8, 11] (fun u j wr => ∃ q s2 : Nat, q ≤ r.C ∧ Hid (s2 = a * r.C + q) ∧ s2 ≤ n ∧ u = .int .i64 (s2 : Int) ∧ j = .int .i64 (q : Int) ∧ Below w9.heap.size w9 wr) (fun _ j _ => r.C - (intOf j).toNat)
     case atStart => exact ⟨0, s, Nat.zero_le _, Lib.hid hs.out, hsn, rfl, rfl, HBR.out⟩
     case round =>
      clear HBR
      obtain ⟨q, s2, hq2, hs2, hs2n, rfl, rfl, hbr⟩ := hrel
      have HBR := Lib.hid hbr
      have g0 : wr.cell? ⟨OB, a, none⟩ = some (.slice (some ⟨G a, 0, none⟩) r.C (K a)) := by
       have := (HRW.out _ hbr).outer.cell (show a < D.R by rw [HD.out.1]; exact hlt)
       rw [this]
       unfold rowV
       rw [HD.out.2.1]
      clear hbr
      by_cases hlq : q < r.C
      · have hqz : (q : Int) < (r.C : Int) := by omega
        have hs2l : s2 < n := by have := HN2.out a hlt; have := hs2.out; omega
        have hs2z : (s2 : Int) < (n : Int) := by omega
        have hwq : IntKind.i64.wrap ((q : Int) + 1) = ((q + 1 : Nat) : Int) := by rw [wrap_in (by omega) (by omega)]; rfl
        have hws : IntKind.i64.wrap ((s2 : Int) + 1) = ((s2 + 1 : Nat) : Int) := by rw [wrap_in (by omega) (by omega)]; rfl
        have HXA : Hid (∀ W', Below w9.heap.size w9 W' → W'.cell? ⟨OB, a, none⟩ = some (.slice (some ⟨G a, 0, none⟩) r.C (K a)) ∧ W'.cell? ⟨G a, q * 4, none⟩ = some (.int .i32 (r.F s2).g) ∧ W'.cell? ⟨G a, q * 4 + 1, none⟩ = some (.int .i64 (r.F s2).a) ∧ W'.cell? ⟨G a, q * 4 + 2, none⟩ = some (.bool (r.F s2).gd) ∧ W'.cell? ⟨G a, q * 4 + 3, none⟩ = some (.int .i64 (r.F s2).m)) := fun W' hb => by
         have := (HRW.out _ hb).cell4 (show a < D.R by rw [HD.out.1]; exact hlt) (show q < D.C by rw [HD.out.2.1]; exact hlq)
         rw [HD.out.2.2 a q hlt hlq, ← hs2.out, HD.out.2.1] at this
         exact this
        have HXB := Lib.hid (fun W' (hb : Below w9.heap.size w9 W') => HAT.out W' (HW9.out _ hb) s2 hs2l)
        have HXC := Lib.hid (fun W' (hb : Below w9.heap.size w9 W') => (HRC.out _ (HW9.out _ hb)).1.2.2.1)
        generalize r.F s2 = x at *
        obtain ⟨p0, p1, p2, p3, p4⟩ := HXA.out _ HBR.out
        obtain ⟨q1, q2, q3, q4⟩ := HXB.out _ HBR.out
        have q0 := HXC.out _ HBR.out
        clear g0
        go_upto_region 13 with fail
        go_quiet (fail)
        have HBN := Lib.hid (below_drewN HBR.out nq)
        go_wp2_with fail
        exact ⟨⟨q + 1, s2 + 1, by omega, Lib.hid (by rw [hs2.out]; omega), by omega, rfl, rfl, HBN.out⟩, by simp [intOf]; omega⟩
      · obtain rfl : q = r.C := by omega
        go_wp2_with fail
        exact ⟨⟨a + 1, s2, by omega, Lib.hid (by rw [hs2.out, Nat.succ_mul]), by omega, rfl, rfl, HBR.out⟩, by simp [intOf]; omega⟩
   · obtain rfl : a = r.R := by omega
     obtain rfl : s = n := hs.out.trans HNN.out
     have HBQ := Lib.hid (HW9.out _ HBR.out)
     have HBR1 : Hid (Below wr.heap.size wr wr) := Below.refl _ _
     have HWQ := Lib.hid (fun W' (hb : Below wr.heap.size wr W') => Below.later HBQ.out hb HBQ.out.size)
     have HS5 := Lib.hid (fun W' (hb : Below wr.heap.size wr W') => (HRC.out _ (HWQ.out _ hb)).1.2.2.2.2.2.1)
     obtain ⟨w10, hw10⟩ : ∃ W', wr = W' := ⟨_, rfl⟩
     rw [hw10] at HBQ HBR1 HWQ HS5 ⊢
     clear hw10 HBR
     go_wp2_with fail
     go_loopw [12, 13] (fun u i wr => ∃ c : Nat, c ≤ r.C ∧ u = .int .i64 ((cntT r.T c : Nat) : Int) ∧ i = .int .i64 (c : Int) ∧ Below w10.heap.size w10 wr) (fun _ i _ => r.C - (intOf i).toNat)
     case atStart => exact ⟨0, Nat.zero_le _, rfl, rfl, HBR1.out⟩
     case round =>
      obtain ⟨c, hc, rfl, rfl, hbr⟩ := hrel
      have HBR := Lib.hid hbr
      have hct := cntT_le r.T c
      have s5 := HS5.out _ hbr
      by_cases hlc : c < r.C
      · have hcz : (c : Int) < (r.C : Int) := by omega
        have hwk : IntKind.i64.wrap ((c : Int) + 1) = ((c + 1 : Nat) : Int) := by rw [wrap_in (by omega) (by omega)]; rfl
        have s6 := HST.out _ (HWQ.out _ hbr) c hlc
        have HCT : Hid (cntT r.T (c + 1) = cntT r.T c + if r.T c = true then 1 else 0) := rfl
        clear hbr
        cases hT : r.T c with
        | true =>
          rw [hT] at s6 HCT
          obtain ⟨m, hm⟩ : ∃ m, cntT r.T c = m := ⟨_, rfl⟩
          have hws : IntKind.i64.wrap ((m : Int) + 1) = ((m + 1 : Nat) : Int) := by rw [wrap_in (by omega) (by omega)]; rfl
          rw [hm] at HCT ⊢
          clear hT hct hm
          go_wp2_with fail
          exact ⟨⟨c + 1, by omega, by rw [HCT.out]; rfl, rfl, HBR.out⟩, by simp [intOf]; omega⟩
        | false =>
          rw [hT] at s6 HCT
          obtain ⟨m, hm⟩ : ∃ m, cntT r.T c = m := ⟨_, rfl⟩
          rw [hm] at HCT ⊢
          clear hT hct hm
          go_wp2_with fail
          exact ⟨⟨c + 1, by omega, by rw [HCT.out]; rfl, rfl, HBR.out⟩, by simp [intOf]; omega⟩
      · obtain rfl : c = r.C := by omega
        have HB6 := Lib.hid (HWQ.out _ hbr)
        clear hbr
        have hLI := HT.out.listed
        obtain ⟨m, hm⟩ : ∃ m, cntT r.T r.C = m := ⟨_, rfl⟩
        rw [hm] at hLI hct ⊢
        have HLI := Lib.hid hLI
        clear hLI hm
        obtain ⟨w11, hw11⟩ : ∃ W', wr = W' := ⟨_, rfl⟩
        rw [hw11] at HB6 s5 ⊢
        clear hw11 HBR
        obtain ⟨x0, -⟩ := HBX.out _ HB6.out
        go_wp2_with (go_at_call 43; refine (HLI.out _ HB6.out).mono ?_; rintro e w12 ⟨A1, ca, rfl, hl, hb12⟩; have HL := Lib.hid hl; have HB12 := Lib.hid (Below.later HB6.out hb12 HB6.out.size); clear hl hb12)
        clear x0 s5
        have HBR2 : Hid (Below w12.heap.size w12 w12) := Below.refl _ _
        have HW12 := Lib.hid (fun W' (hb : Below w12.heap.size w12 W') => Below.later HB12.out hb HB12.out.size)
        go_loopw [15] (fun i wr => ∃ k : Nat, k ≤ m ∧ i = .int .i64 (k : Int) ∧ Below w12.heap.size w12 wr) (fun i _ => m - (intOf i).toNat)
        case atStart => exact ⟨0, Nat.zero_le _, rfl, HBR2.out⟩
        case round =>
         obtain ⟨k, hk, rfl, hbr⟩ := hrel
         by_cases hlk : k < m
         · have hkz : (k : Int) < (m : Int) := by omega
           have hwk : IntKind.i64.wrap ((k : Int) + 1) = ((k + 1 : Nat) : Int) := by rw [wrap_in (by omega) (by omega)]; rfl
           obtain ⟨c, g, hc1, hc2, rfl, hg⟩ := HL.out k hlk
           have hcz : (c : Int) < (r.C : Int) := by omega
           have hc0 : ¬ (c : Int) < 0 := by omega
           have HG : Hid (∀ W', Below w12.heap.size w12 W' → W'.cell? ⟨g, k, none⟩ = some (.int .i64 (c : Int))) := fun W' hb => (hb.cell (World.block_lt_of_cell? _ _ hg)).trans hg
           have HTC : Hid (∀ W', Below w12.heap.size w12 W' → W'.cell? ⟨sb, c, none⟩ = some (.bool true)) := fun W' hb => by have := HST.out _ (HW12.out _ hb) c hc1; rw [hc2] at this; exact this
           have HS7 := Lib.hid (fun W' (hb : Below w12.heap.size w12 W') => (HRC.out _ (HW12.out _ hb)).1.2.2.2.2.2.1)
           have HBR3 := Lib.hid hbr
           clear hbr hg hc2
           have g1 := HG.out _ HBR3.out
           have t1 := HTC.out _ HBR3.out
           have s7 := HS7.out _ HBR3.out
           go_upto_region 26 with fail
           go_quiet (fail)
           have HBN := Lib.hid (below_drewN HBR3.out nq)
           go_wp2_with fail
           exact ⟨⟨k + 1, by omega, rfl, HBN.out⟩, by simp [intOf]; omega⟩
         · obtain rfl : k = m := by omega
           have HB13 := Lib.hid (HW12.out _ hbr)
           have z2 := (HRC.out _ HB13.out).1.2.2.1
           clear hbr
           go_wp2_with fail
           go_ret
           exact ⟨rfl, HB13.out⟩
end Go.Proofs.YtncgigapgklhcaaGreatDoor
