import Derived.Test.YtliacdaddncmaaaGreatDoorSnTake
import Derived.Test.YtliacdaddncmaaaGreatDoorLU
import Derived.Test.YtliacdaddncmaaaGreatDoorLS
import Derived.Test.YtliacdaddncmaaaGreatDoorRegI
import Derived.RangeFuncCalls
import Derived.TacticsInMore
import Derived.LoopNIn
import Derived.LoopIn
import Derived.OwnWalkIn

/- Walks: the runs of a shot, handed out one by one. -/
namespace Go.Proofs.YtliacdaddncmaaaGreatDoor
open Go.RowKit
set_option linter.unusedSimpArgs false
set_option linter.unusedVariables false
attribute [local go_sem] alloc_drewN setCell_drewN World.cell?_alloc_some frozen_alloc_some size_f0 size_f1

def runV (r : Rn) : Array Value := #[.agg #[.int .i64 (r.row : Int), .int .i64 (r.col : Int), .int .i64 (r.len : Int), .int .i64 r.look, .bool r.gd, .string ⟨r.text.toArray⟩]]
/-- A shot in a box. -/
def RunG (bx B : Nat) (x : Sh) (OB g cap : Nat) (sv : Value) (G K G' : Nat → Nat) (W : World) : Prop := W.heap[bx]? = some (.cells (shV x OB g cap sv) 30 (0, 0)) ∧ ShP B W x OB g cap sv G K G'
theorem runsC_step (x : Nat → Vz.Cl) (L : Nat → Int) (i C fr n : Nat) (h : fr < C) : runsC x L i C fr (n + 1) = ⟨i, fr, toR (sameR L (fun k => (x k).gd) fr) (fr + 1) (C - (fr + 1)) - fr, L fr, (x fr).gd, glyL x fr (toR (sameR L (fun k => (x k).gd) fr) (fr + 1) (C - (fr + 1)) - fr)⟩ :: runsC x L i C (toR (sameR L (fun k => (x k).gd) fr) (fr + 1) (C - (fr + 1))) n := by
  show (if fr < C then _ else _) = _
  rw [if_pos h]
theorem runsC_none (x : Nat → Vz.Cl) (L : Nat → Int) (i C n : Nat) : runsC x L i C C n = [] := by
  cases n with
  | zero => rfl
  | succ n =>
    show (if C < C then _ else _) = _
    rw [if_neg (Nat.lt_irrefl _)]
set_option maxRecDepth 100000 in
set_option maxHeartbeats 16000000 in
theorem runs_in (n : Nat) (hn : 1 ≤ n) (l bx B OB g cap : Nat) (x : Sh) (sv : Value) (G K G' : Nat → Nat) (hm : x.S.D.may) (hx : ∀ i j, CellOk (x.S.D.X i j)) (J Jx : List Rn → World → Prop) (hJ : ∀ s A, J s A → RunG bx B x OB g cap sv G K G' A)
    (hB : ∀ s A A', J s A → Below A.heap.size A A' → J s A')
    (hY : ∀ pre r W, J pre W → pre ++ [r] <+: allN x.S.D x.look → YieldAt Fence.wide (n - 1) Tryz.prog l (runV r) W fun e W' => (e = .returned (.bool true) ∧ J (pre ++ [r]) W') ∨ (e = .returned (.bool false) ∧ Jx (pre ++ [r]) W'))
    (W : World) (h0 : J [] W) : CallsIn Fence.wide n Tryz.prog 26 #[.func (.yield l) #[] #[], .pointer (some ⟨bx, 0, none⟩)] W fun e W' => (∃ v, e = .returned v) ∧ ((∃ ys, ys = allN x.S.D x.look ∧ J ys W') ∨ (∃ pre, pre <+: allN x.S.D x.look ∧ Jx pre W')) := by
  obtain ⟨m1, m2, m3, m4⟩ := hm
  have HJ := Lib.hid hJ
  have HB := Lib.hid hB
  have HY := Lib.hid hY
  have H0 := Lib.hid h0
  have HX := Lib.hid hx
  obtain ⟨⟨r0, r1, r2, r3, r4, r5, r6, r7, r8⟩, _⟩ := row9 (hJ _ _ h0).1
  clear hJ hB hY h0 hx
  refine callsIn_of_wp Tryz.func26 rfl trivial ?_ rfl
  simp only [Tryz.ntmps26, List.size_toArray, List.length_cons, List.length_nil, Nat.reduceAdd, Nat.reduceSub, Array.replicate_succ, Array.replicate_zero, List.push_toArray, List.append_toArray, List.nil_append, List.cons_append]
  gi_wp2
  gi_loopw [10] (fun i wr => ∃ (k : Nat) (pre : List Rn), k ≤ x.S.D.R ∧ i = .int .i64 (k : Int) ∧ pre ++ runsD x.S.D x.look k (x.S.D.R - k) = allN x.S.D x.look ∧ J pre wr) (fun i _ => x.S.D.R - (intOf i).toNat)
  case atStart => exact ⟨0, [], Nat.zero_le _, rfl, rfl, H0.out⟩
  case round =>
    clear r0 r1 r2 r3 r4 r5 r6 r7 r8
    obtain ⟨k, pre, hk, rfl, heq, hj⟩ := hrel
    by_cases hlt : k < x.S.D.R
    · have hkz : (k : Int) < (x.S.D.R : Int) := by omega
      have hwk : IntKind.i64.wrap ((k : Int) + 1) = ((k + 1 : Nat) : Int) := by rw [wrap_in (by omega) (by omega)]; rfl
      have gk : wr.cell? ⟨OB, k, none⟩ = some (.slice (some ⟨G k, 0, none⟩) x.S.D.C (K k)) := (HJ.out _ _ hj).2.rows.outer.cell hlt
      obtain ⟨m, hm⟩ : ∃ m, x.S.D.R - k = m + 1 := ⟨x.S.D.R - k - 1, by omega⟩
      have hm2 : x.S.D.R - (k + 1) = m := by omega
      rw [hm] at heq
      have HEQ := Lib.hid (show pre ++ (runsC (x.S.D.X k) (x.look k) k x.S.D.C 0 x.S.D.C ++ runsD x.S.D x.look (k + 1) m) = allN x.S.D x.look from heq)
      have HJJ := Lib.hid hj
      clear heq hj hm
      gi_wp2
      gi_loopw [5] (fun f wr => ∃ (fr q : Nat) (pr : List Rn), f = .int .i64 (fr : Int) ∧ fr ≤ x.S.D.C ∧ x.S.D.C - fr ≤ q ∧ pr ++ (runsC (x.S.D.X k) (x.look k) k x.S.D.C fr q ++ runsD x.S.D x.look (k + 1) m) = allN x.S.D x.look ∧ J pr wr) (fun f _ => x.S.D.C - (intOf f).toNat)
      case atStart => exact ⟨0, x.S.D.C, pre, rfl, Nat.zero_le _, by omega, HEQ.out, HJJ.out⟩
      case round =>
        clear gk
        obtain ⟨fr, q, pr, rfl, hfc, hfq, heq, hj⟩ := hrel
        by_cases hlf : fr < x.S.D.C
        · obtain ⟨q', rfl⟩ : ∃ q', q = q' + 1 := ⟨q - 1, by omega⟩
          rw [runsC_step _ _ _ _ _ _ hlf] at heq
          have hto := toR_ge (sameR (x.look k) (fun j => (x.S.D.X k j).gd) fr) (x.S.D.C - (fr + 1)) (fr + 1)
          obtain ⟨f, hf⟩ : ∃ f, f = sameR (x.look k) (fun j => (x.S.D.X k j).gd) fr := ⟨_, rfl⟩
          rw [← hf] at heq hto
          obtain ⟨T, hT⟩ : ∃ T, T = toR f (fr + 1) (x.S.D.C - (fr + 1)) := ⟨_, rfl⟩
          rw [← hT] at heq hto
          have HF : Hid (∀ j, f j = (decide (x.look k j = x.look k fr) && decide ((x.S.D.X k j).gd = (x.S.D.X k fr).gd))) := fun j => by rw [hf]; rfl
          have HT := Lib.hid hT
          have HEQ2 := Lib.hid heq
          have HJ2 := Lib.hid hj
          have hfz : (fr : Int) < (x.S.D.C : Int) := by omega
          have hw1 : IntKind.i64.wrap ((fr : Int) + 1) = ((fr + 1 : Nat) : Int) := by rw [wrap_in (by omega) (by omega)]; rfl
          have hkc : x.S.D.C ≤ K k := by
            have := ((HJ.out _ _ hj).2.rows.row k hlt).le
            omega
          clear heq hj hf hT
          gi_wp2
          gi_loopw [6] (fun t wr => ∃ tt : Nat, t = .int .i64 (tt : Int) ∧ fr + 1 ≤ tt ∧ tt ≤ x.S.D.C ∧ toR f tt (x.S.D.C - tt) = T ∧ J pr wr) (fun t _ => x.S.D.C - (intOf t).toNat)
          case atStart => exact ⟨fr + 1, rfl, Nat.le_refl _, by omega, HT.out.symm, HJ2.out⟩
          case round =>
            obtain ⟨tt, rfl, h1, h2, ht, hj⟩ := hrel
            have HTT := Lib.hid ht
            have HJ3 := Lib.hid (HB.out _ _ _ hj (Below.refl _ _).drew)
            clear hj ht
            have hcase : (tt < x.S.D.C ∧ x.look k tt = x.look k fr ∧ (x.S.D.X k tt).gd = (x.S.D.X k fr).gd ∧ toR f (tt + 1) (x.S.D.C - (tt + 1)) = T) ∨ (T = tt ∧ (tt < x.S.D.C ∧ x.look k tt = x.look k fr ∧ ¬ (x.S.D.X k tt).gd = (x.S.D.X k fr).gd ∨ tt < x.S.D.C ∧ ¬ x.look k tt = x.look k fr ∨ tt = x.S.D.C)) := by
              by_cases hl2 : tt < x.S.D.C
              · obtain ⟨n', hn'⟩ : ∃ n', x.S.D.C - tt = n' + 1 := ⟨x.S.D.C - tt - 1, by omega⟩
                have hn2 : x.S.D.C - (tt + 1) = n' := by omega
                have hst : (if f tt = true then toR f (tt + 1) n' else tt) = T := by
                  rw [← HTT.out, hn']
                  rfl
                have hf := HF.out tt
                by_cases hL : x.look k tt = x.look k fr
                · by_cases hG : (x.S.D.X k tt).gd = (x.S.D.X k fr).gd
                  · rw [hf, decide_eq_true hL, decide_eq_true hG, if_pos (show (true && true) = true from rfl)] at hst
                    exact .inl ⟨hl2, hL, hG, by rw [hn2]; exact hst⟩
                  · rw [hf, decide_eq_false hG, Bool.and_false, if_neg (by decide)] at hst
                    exact .inr ⟨hst.symm, .inl ⟨hl2, hL, hG⟩⟩
                · rw [hf, decide_eq_false hL, Bool.false_and, if_neg (by decide)] at hst
                  exact .inr ⟨hst.symm, .inr (.inl ⟨hl2, hL⟩)⟩
              · obtain rfl : tt = x.S.D.C := by omega
                have := HTT.out
                rw [Nat.sub_self] at this
                exact .inr ⟨this.symm, .inr (.inr rfl)⟩
            have hw2 : IntKind.i64.wrap ((tt : Int) + 1) = ((tt + 1 : Nat) : Int) := by rw [wrap_in (by omega) (by omega)]; rfl
            gi_upto_region 6 with fail
            rcases hcase with ⟨hl2, hL, hG, hT2⟩ | ⟨hTt, hq⟩
            · have hlz : (tt : Int) < (x.S.D.C : Int) := by omega
              have HT2 := Lib.hid hT2
              clear hT2
              refine wpIn_region_i (S := fun W : World => J pr W) 999 (by kernel_rfl) (HJ3.out) (fun hHeld => ?_)
              refine kSI 0 hHeld ?_
              refine kSI 1 hHeld ?_
              refine kSI 2 hHeld ?_
              refine kSI 3 hHeld ?_
              refine kSI 4 hHeld ?_
              try refine kNI ?_
              refine kSI 5 hHeld ?_
              refine kHI (v := ?_) 6 hHeld ?y7 ?_
              case y7 => (intro W hSw; have hS := HJ.out _ _ hSw; obtain ⟨⟨s0, s1, s2, s3, s4, s5, s6, s7, s8⟩, _⟩ := row9 hS.1; have o0 := hS.2.looks.outer k hlt; have a1 : W.cell? ⟨G' k, fr, none⟩ = some (.int .i64 (x.look k fr)) := (hS.2.looks.cell hlt hlf).1; obtain ⟨d0, d1, d2, d3⟩ := hS.2.rows.cellsIn hlt fr hlf; have a2 : W.cell? ⟨G' k, tt, none⟩ = some (.int .i64 (x.look k tt)) := (hS.2.looks.cell hlt hl2).1; obtain ⟨e0, e1, e2, e3⟩ := hS.2.rows.cellsIn hlt tt hl2; go_simp; try with_reducible rfl)
              refine kSI 7 hHeld ?_
              refine kSI 8 hHeld ?_
              refine kHI (v := ?_) 9 hHeld ?y10 ?_
              case y10 => (intro W hSw; have hS := HJ.out _ _ hSw; obtain ⟨⟨s0, s1, s2, s3, s4, s5, s6, s7, s8⟩, _⟩ := row9 hS.1; have o0 := hS.2.looks.outer k hlt; have a1 : W.cell? ⟨G' k, fr, none⟩ = some (.int .i64 (x.look k fr)) := (hS.2.looks.cell hlt hlf).1; obtain ⟨d0, d1, d2, d3⟩ := hS.2.rows.cellsIn hlt fr hlf; have a2 : W.cell? ⟨G' k, tt, none⟩ = some (.int .i64 (x.look k tt)) := (hS.2.looks.cell hlt hl2).1; obtain ⟨e0, e1, e2, e3⟩ := hS.2.rows.cellsIn hlt tt hl2; go_simp; try with_reducible rfl)
              try refine kNI ?_
              refine kSI 10 hHeld ?_
              refine kSI 11 hHeld ?_
              refine kHI (v := ?_) 12 hHeld ?y13 ?_
              case y13 => (intro W hSw; have hS := HJ.out _ _ hSw; obtain ⟨⟨s0, s1, s2, s3, s4, s5, s6, s7, s8⟩, _⟩ := row9 hS.1; have o0 := hS.2.looks.outer k hlt; have a1 : W.cell? ⟨G' k, fr, none⟩ = some (.int .i64 (x.look k fr)) := (hS.2.looks.cell hlt hlf).1; obtain ⟨d0, d1, d2, d3⟩ := hS.2.rows.cellsIn hlt fr hlf; have a2 : W.cell? ⟨G' k, tt, none⟩ = some (.int .i64 (x.look k tt)) := (hS.2.looks.cell hlt hl2).1; obtain ⟨e0, e1, e2, e3⟩ := hS.2.rows.cellsIn hlt tt hl2; go_simp; try with_reducible rfl)
              refine kSI 13 hHeld ?_
              refine kHI (v := ?_) 14 hHeld ?y15 ?_
              case y15 => (intro W hSw; have hS := HJ.out _ _ hSw; obtain ⟨⟨s0, s1, s2, s3, s4, s5, s6, s7, s8⟩, _⟩ := row9 hS.1; have o0 := hS.2.looks.outer k hlt; have a1 : W.cell? ⟨G' k, fr, none⟩ = some (.int .i64 (x.look k fr)) := (hS.2.looks.cell hlt hlf).1; obtain ⟨d0, d1, d2, d3⟩ := hS.2.rows.cellsIn hlt fr hlf; have a2 : W.cell? ⟨G' k, tt, none⟩ = some (.int .i64 (x.look k tt)) := (hS.2.looks.cell hlt hl2).1; obtain ⟨e0, e1, e2, e3⟩ := hS.2.rows.cellsIn hlt tt hl2; go_simp; try with_reducible rfl)
              try refine kNI ?_
              refine kSI 15 hHeld ?_
              refine kSI 16 hHeld ?_
              refine kHI (v := ?_) 17 hHeld ?y18 ?_
              case y18 => (intro W hSw; have hS := HJ.out _ _ hSw; obtain ⟨⟨s0, s1, s2, s3, s4, s5, s6, s7, s8⟩, _⟩ := row9 hS.1; have o0 := hS.2.looks.outer k hlt; have a1 : W.cell? ⟨G' k, fr, none⟩ = some (.int .i64 (x.look k fr)) := (hS.2.looks.cell hlt hlf).1; obtain ⟨d0, d1, d2, d3⟩ := hS.2.rows.cellsIn hlt fr hlf; have a2 : W.cell? ⟨G' k, tt, none⟩ = some (.int .i64 (x.look k tt)) := (hS.2.looks.cell hlt hl2).1; obtain ⟨e0, e1, e2, e3⟩ := hS.2.rows.cellsIn hlt tt hl2; go_simp; try with_reducible rfl)
              refine kSI 18 hHeld ?_
              refine kSI 19 hHeld ?_
              try refine kNI ?_
              refine kHI (v := ?_) 20 hHeld ?y21 ?_
              case y21 => (intro W hSw; have hS := HJ.out _ _ hSw; obtain ⟨⟨s0, s1, s2, s3, s4, s5, s6, s7, s8⟩, _⟩ := row9 hS.1; have o0 := hS.2.looks.outer k hlt; have a1 : W.cell? ⟨G' k, fr, none⟩ = some (.int .i64 (x.look k fr)) := (hS.2.looks.cell hlt hlf).1; obtain ⟨d0, d1, d2, d3⟩ := hS.2.rows.cellsIn hlt fr hlf; have a2 : W.cell? ⟨G' k, tt, none⟩ = some (.int .i64 (x.look k tt)) := (hS.2.looks.cell hlt hl2).1; obtain ⟨e0, e1, e2, e3⟩ := hS.2.rows.cellsIn hlt tt hl2; go_simp; try with_reducible rfl)
              refine kSI 21 hHeld ?_
              refine kSI 22 hHeld ?_
              refine kSI 23 hHeld ?_
              refine kSI 24 hHeld ?_
              try refine kNI ?_
              refine kSI 25 hHeld ?_
              refine kSI 26 hHeld ?_
              refine kSI 27 hHeld ?_
              refine kHI (v := ?_) 28 hHeld ?y29 ?_
              case y29 => (intro W hSw; have hS := HJ.out _ _ hSw; obtain ⟨⟨s0, s1, s2, s3, s4, s5, s6, s7, s8⟩, _⟩ := row9 hS.1; have o0 := hS.2.looks.outer k hlt; have a1 : W.cell? ⟨G' k, fr, none⟩ = some (.int .i64 (x.look k fr)) := (hS.2.looks.cell hlt hlf).1; obtain ⟨d0, d1, d2, d3⟩ := hS.2.rows.cellsIn hlt fr hlf; have a2 : W.cell? ⟨G' k, tt, none⟩ = some (.int .i64 (x.look k tt)) := (hS.2.looks.cell hlt hl2).1; obtain ⟨e0, e1, e2, e3⟩ := hS.2.rows.cellsIn hlt tt hl2; go_simp; try with_reducible rfl)
              refine kSI 29 hHeld ?_
              try refine kNI ?_
              refine kSI 30 hHeld ?_
              refine kSI 31 hHeld ?_
              refine kSI 32 hHeld ?_
              refine kHI (v := ?_) 33 hHeld ?y34 ?_
              case y34 => (intro W hSw; have hS := HJ.out _ _ hSw; obtain ⟨⟨s0, s1, s2, s3, s4, s5, s6, s7, s8⟩, _⟩ := row9 hS.1; have o0 := hS.2.looks.outer k hlt; have a1 : W.cell? ⟨G' k, fr, none⟩ = some (.int .i64 (x.look k fr)) := (hS.2.looks.cell hlt hlf).1; obtain ⟨d0, d1, d2, d3⟩ := hS.2.rows.cellsIn hlt fr hlf; have a2 : W.cell? ⟨G' k, tt, none⟩ = some (.int .i64 (x.look k tt)) := (hS.2.looks.cell hlt hl2).1; obtain ⟨e0, e1, e2, e3⟩ := hS.2.rows.cellsIn hlt tt hl2; go_simp; try with_reducible rfl)
              refine kSI 34 hHeld ?_
              try refine kNI ?_
              refine kSI 35 hHeld ?_
              try refine kNI ?_
              refine wpAnyI_done (by kernel_rfl) ?_ _
              refine NoPanic.normal ?_
              gi_wp2
              exact ⟨⟨tt + 1, rfl, by omega, by omega, HT2.out, HJ3.out⟩, by simp [intOf]; omega⟩
            · subst hTt
              have HGL : Hid (∀ W, J pr W → _) := fun W (hj : J pr W) => glyphs_ok (G k) fr x.S.D.C (x.S.D.X k) (T - fr) (K k - fr) W ((HJ.out _ _ hj).2.rows.cellsIn hlt) ((HJ.out _ _ hj).2.rows.row k hlt).lt (by omega) m4 (fun j => (HX.out k j).gly)
              have hcut : ∀ W : World, Sem.run Tryz.prog (Instr.slice 67 (.slice (some ⟨G k, 0, none⟩) x.S.D.C (K k)) (some (.int .i64 (fr : Int))) (some (.int .i64 (T : Int))) none) W = .ok (.slice (some ⟨G k, fr * 4, none⟩) (T - fr) (K k - fr)) W := fun W => by
                have := run_cut_both (P := Tryz.prog) Tryz.underlying67 cellSize W (G k) 0 x.S.D.C (K k) fr T (by omega) (by omega) (by omega)
                rwa [Nat.zero_add] at this
              have hw3 : IntKind.i64.wrap ((T : Int) - (fr : Int)) = ((T - fr : Nat) : Int) := by rw [wrap_in (by omega) (by omega)]; omega
              have HPRE : Hid (pr ++ [⟨k, fr, T - fr, x.look k fr, (x.S.D.X k fr).gd, glyL (x.S.D.X k) fr (T - fr)⟩] <+: allN x.S.D x.look) := ⟨runsC (x.S.D.X k) (x.look k) k x.S.D.C T q' ++ runsD x.S.D x.look (k + 1) m, by rw [List.append_assoc]; exact HEQ2.out⟩
              rcases hq with ⟨hl2, hL, hG⟩ | ⟨hl2, hL⟩ | hl2
              focus
                have hlz : (T : Int) < (x.S.D.C : Int) := by omega
                have hGb : ((x.S.D.X k T).gd == (x.S.D.X k fr).gd) = false := beq_eq_false_iff_ne.2 hG
                refine wpIn_region_i (S := fun W : World => J pr W) 999 (by kernel_rfl) (HJ3.out) (fun hHeld => ?_)
                refine kSI 0 hHeld ?_
                refine kSI 1 hHeld ?_
                refine kSI 2 hHeld ?_
                refine kSI 3 hHeld ?_
                refine kSI 4 hHeld ?_
                try refine kNI ?_
                refine kSI 5 hHeld ?_
                refine kHI (v := ?_) 6 hHeld ?y7 ?_
                case y7 => (intro W hSw; have hS := HJ.out _ _ hSw; obtain ⟨⟨s0, s1, s2, s3, s4, s5, s6, s7, s8⟩, _⟩ := row9 hS.1; have o0 := hS.2.looks.outer k hlt; have a1 : W.cell? ⟨G' k, fr, none⟩ = some (.int .i64 (x.look k fr)) := (hS.2.looks.cell hlt hlf).1; obtain ⟨d0, d1, d2, d3⟩ := hS.2.rows.cellsIn hlt fr hlf; have a2 : W.cell? ⟨G' k, T, none⟩ = some (.int .i64 (x.look k T)) := (hS.2.looks.cell hlt hl2).1; obtain ⟨e0, e1, e2, e3⟩ := hS.2.rows.cellsIn hlt T hl2; go_simp; try with_reducible rfl)
                refine kSI 7 hHeld ?_
                refine kSI 8 hHeld ?_
                refine kHI (v := ?_) 9 hHeld ?y10 ?_
                case y10 => (intro W hSw; have hS := HJ.out _ _ hSw; obtain ⟨⟨s0, s1, s2, s3, s4, s5, s6, s7, s8⟩, _⟩ := row9 hS.1; have o0 := hS.2.looks.outer k hlt; have a1 : W.cell? ⟨G' k, fr, none⟩ = some (.int .i64 (x.look k fr)) := (hS.2.looks.cell hlt hlf).1; obtain ⟨d0, d1, d2, d3⟩ := hS.2.rows.cellsIn hlt fr hlf; have a2 : W.cell? ⟨G' k, T, none⟩ = some (.int .i64 (x.look k T)) := (hS.2.looks.cell hlt hl2).1; obtain ⟨e0, e1, e2, e3⟩ := hS.2.rows.cellsIn hlt T hl2; go_simp; try with_reducible rfl)
                try refine kNI ?_
                refine kSI 10 hHeld ?_
                refine kSI 11 hHeld ?_
                refine kHI (v := ?_) 12 hHeld ?y13 ?_
                case y13 => (intro W hSw; have hS := HJ.out _ _ hSw; obtain ⟨⟨s0, s1, s2, s3, s4, s5, s6, s7, s8⟩, _⟩ := row9 hS.1; have o0 := hS.2.looks.outer k hlt; have a1 : W.cell? ⟨G' k, fr, none⟩ = some (.int .i64 (x.look k fr)) := (hS.2.looks.cell hlt hlf).1; obtain ⟨d0, d1, d2, d3⟩ := hS.2.rows.cellsIn hlt fr hlf; have a2 : W.cell? ⟨G' k, T, none⟩ = some (.int .i64 (x.look k T)) := (hS.2.looks.cell hlt hl2).1; obtain ⟨e0, e1, e2, e3⟩ := hS.2.rows.cellsIn hlt T hl2; go_simp; try with_reducible rfl)
                refine kSI 13 hHeld ?_
                refine kHI (v := ?_) 14 hHeld ?y15 ?_
                case y15 => (intro W hSw; have hS := HJ.out _ _ hSw; obtain ⟨⟨s0, s1, s2, s3, s4, s5, s6, s7, s8⟩, _⟩ := row9 hS.1; have o0 := hS.2.looks.outer k hlt; have a1 : W.cell? ⟨G' k, fr, none⟩ = some (.int .i64 (x.look k fr)) := (hS.2.looks.cell hlt hlf).1; obtain ⟨d0, d1, d2, d3⟩ := hS.2.rows.cellsIn hlt fr hlf; have a2 : W.cell? ⟨G' k, T, none⟩ = some (.int .i64 (x.look k T)) := (hS.2.looks.cell hlt hl2).1; obtain ⟨e0, e1, e2, e3⟩ := hS.2.rows.cellsIn hlt T hl2; go_simp; try with_reducible rfl)
                try refine kNI ?_
                refine kSI 15 hHeld ?_
                refine kSI 16 hHeld ?_
                refine kHI (v := ?_) 17 hHeld ?y18 ?_
                case y18 => (intro W hSw; have hS := HJ.out _ _ hSw; obtain ⟨⟨s0, s1, s2, s3, s4, s5, s6, s7, s8⟩, _⟩ := row9 hS.1; have o0 := hS.2.looks.outer k hlt; have a1 : W.cell? ⟨G' k, fr, none⟩ = some (.int .i64 (x.look k fr)) := (hS.2.looks.cell hlt hlf).1; obtain ⟨d0, d1, d2, d3⟩ := hS.2.rows.cellsIn hlt fr hlf; have a2 : W.cell? ⟨G' k, T, none⟩ = some (.int .i64 (x.look k T)) := (hS.2.looks.cell hlt hl2).1; obtain ⟨e0, e1, e2, e3⟩ := hS.2.rows.cellsIn hlt T hl2; go_simp; try with_reducible rfl)
                refine kSI 18 hHeld ?_
                refine kSI 19 hHeld ?_
                try refine kNI ?_
                refine kHI (v := ?_) 20 hHeld ?y21 ?_
                case y21 => (intro W hSw; have hS := HJ.out _ _ hSw; obtain ⟨⟨s0, s1, s2, s3, s4, s5, s6, s7, s8⟩, _⟩ := row9 hS.1; have o0 := hS.2.looks.outer k hlt; have a1 : W.cell? ⟨G' k, fr, none⟩ = some (.int .i64 (x.look k fr)) := (hS.2.looks.cell hlt hlf).1; obtain ⟨d0, d1, d2, d3⟩ := hS.2.rows.cellsIn hlt fr hlf; have a2 : W.cell? ⟨G' k, T, none⟩ = some (.int .i64 (x.look k T)) := (hS.2.looks.cell hlt hl2).1; obtain ⟨e0, e1, e2, e3⟩ := hS.2.rows.cellsIn hlt T hl2; go_simp; try with_reducible rfl)
                refine kSI 21 hHeld ?_
                refine kSI 22 hHeld ?_
                refine kSI 23 hHeld ?_
                refine kSI 24 hHeld ?_
                try refine kNI ?_
                refine kSI 25 hHeld ?_
                refine kSI 26 hHeld ?_
                refine kSI 27 hHeld ?_
                refine kHI (v := ?_) 28 hHeld ?y29 ?_
                case y29 => (intro W hSw; have hS := HJ.out _ _ hSw; obtain ⟨⟨s0, s1, s2, s3, s4, s5, s6, s7, s8⟩, _⟩ := row9 hS.1; have o0 := hS.2.looks.outer k hlt; have a1 : W.cell? ⟨G' k, fr, none⟩ = some (.int .i64 (x.look k fr)) := (hS.2.looks.cell hlt hlf).1; obtain ⟨d0, d1, d2, d3⟩ := hS.2.rows.cellsIn hlt fr hlf; have a2 : W.cell? ⟨G' k, T, none⟩ = some (.int .i64 (x.look k T)) := (hS.2.looks.cell hlt hl2).1; obtain ⟨e0, e1, e2, e3⟩ := hS.2.rows.cellsIn hlt T hl2; go_simp; try with_reducible rfl)
                refine kSI 29 hHeld ?_
                try refine kNI ?_
                refine kSI 30 hHeld ?_
                refine kSI 31 hHeld ?_
                refine kSI 32 hHeld ?_
                refine kHI (v := ?_) 33 hHeld ?y34 ?_
                case y34 => (intro W hSw; have hS := HJ.out _ _ hSw; obtain ⟨⟨s0, s1, s2, s3, s4, s5, s6, s7, s8⟩, _⟩ := row9 hS.1; have o0 := hS.2.looks.outer k hlt; have a1 : W.cell? ⟨G' k, fr, none⟩ = some (.int .i64 (x.look k fr)) := (hS.2.looks.cell hlt hlf).1; obtain ⟨d0, d1, d2, d3⟩ := hS.2.rows.cellsIn hlt fr hlf; have a2 : W.cell? ⟨G' k, T, none⟩ = some (.int .i64 (x.look k T)) := (hS.2.looks.cell hlt hl2).1; obtain ⟨e0, e1, e2, e3⟩ := hS.2.rows.cellsIn hlt T hl2; go_simp; try with_reducible rfl)
                refine kSI 34 hHeld ?_
                try refine kNI ?_
                refine kSI 35 hHeld ?_
                try refine kNI ?_
                refine wpAnyI_done (by kernel_rfl) ?_ _
                refine NoPanic.normal ?_
              rotate_left
              focus
                have hlz : (T : Int) < (x.S.D.C : Int) := by omega
                have hLb : (x.look k T == x.look k fr) = false := beq_eq_false_iff_ne.2 hL
                refine wpIn_region_i (S := fun W : World => J pr W) 999 (by kernel_rfl) (HJ3.out) (fun hHeld => ?_)
                refine kSI 0 hHeld ?_
                refine kSI 1 hHeld ?_
                refine kSI 2 hHeld ?_
                refine kSI 3 hHeld ?_
                refine kSI 4 hHeld ?_
                try refine kNI ?_
                refine kSI 5 hHeld ?_
                refine kHI (v := ?_) 6 hHeld ?y7 ?_
                case y7 => (intro W hSw; have hS := HJ.out _ _ hSw; obtain ⟨⟨s0, s1, s2, s3, s4, s5, s6, s7, s8⟩, _⟩ := row9 hS.1; have o0 := hS.2.looks.outer k hlt; have a1 : W.cell? ⟨G' k, fr, none⟩ = some (.int .i64 (x.look k fr)) := (hS.2.looks.cell hlt hlf).1; obtain ⟨d0, d1, d2, d3⟩ := hS.2.rows.cellsIn hlt fr hlf; have a2 : W.cell? ⟨G' k, T, none⟩ = some (.int .i64 (x.look k T)) := (hS.2.looks.cell hlt hl2).1; obtain ⟨e0, e1, e2, e3⟩ := hS.2.rows.cellsIn hlt T hl2; go_simp; try with_reducible rfl)
                refine kSI 7 hHeld ?_
                refine kSI 8 hHeld ?_
                refine kHI (v := ?_) 9 hHeld ?y10 ?_
                case y10 => (intro W hSw; have hS := HJ.out _ _ hSw; obtain ⟨⟨s0, s1, s2, s3, s4, s5, s6, s7, s8⟩, _⟩ := row9 hS.1; have o0 := hS.2.looks.outer k hlt; have a1 : W.cell? ⟨G' k, fr, none⟩ = some (.int .i64 (x.look k fr)) := (hS.2.looks.cell hlt hlf).1; obtain ⟨d0, d1, d2, d3⟩ := hS.2.rows.cellsIn hlt fr hlf; have a2 : W.cell? ⟨G' k, T, none⟩ = some (.int .i64 (x.look k T)) := (hS.2.looks.cell hlt hl2).1; obtain ⟨e0, e1, e2, e3⟩ := hS.2.rows.cellsIn hlt T hl2; go_simp; try with_reducible rfl)
                try refine kNI ?_
                refine kSI 10 hHeld ?_
                refine kSI 11 hHeld ?_
                refine kHI (v := ?_) 12 hHeld ?y13 ?_
                case y13 => (intro W hSw; have hS := HJ.out _ _ hSw; obtain ⟨⟨s0, s1, s2, s3, s4, s5, s6, s7, s8⟩, _⟩ := row9 hS.1; have o0 := hS.2.looks.outer k hlt; have a1 : W.cell? ⟨G' k, fr, none⟩ = some (.int .i64 (x.look k fr)) := (hS.2.looks.cell hlt hlf).1; obtain ⟨d0, d1, d2, d3⟩ := hS.2.rows.cellsIn hlt fr hlf; have a2 : W.cell? ⟨G' k, T, none⟩ = some (.int .i64 (x.look k T)) := (hS.2.looks.cell hlt hl2).1; obtain ⟨e0, e1, e2, e3⟩ := hS.2.rows.cellsIn hlt T hl2; go_simp; try with_reducible rfl)
                refine kSI 13 hHeld ?_
                refine kHI (v := ?_) 14 hHeld ?y15 ?_
                case y15 => (intro W hSw; have hS := HJ.out _ _ hSw; obtain ⟨⟨s0, s1, s2, s3, s4, s5, s6, s7, s8⟩, _⟩ := row9 hS.1; have o0 := hS.2.looks.outer k hlt; have a1 : W.cell? ⟨G' k, fr, none⟩ = some (.int .i64 (x.look k fr)) := (hS.2.looks.cell hlt hlf).1; obtain ⟨d0, d1, d2, d3⟩ := hS.2.rows.cellsIn hlt fr hlf; have a2 : W.cell? ⟨G' k, T, none⟩ = some (.int .i64 (x.look k T)) := (hS.2.looks.cell hlt hl2).1; obtain ⟨e0, e1, e2, e3⟩ := hS.2.rows.cellsIn hlt T hl2; go_simp; try with_reducible rfl)
                try refine kNI ?_
                refine kSI 15 hHeld ?_
                refine kSI 16 hHeld ?_
                refine kHI (v := ?_) 17 hHeld ?y18 ?_
                case y18 => (intro W hSw; have hS := HJ.out _ _ hSw; obtain ⟨⟨s0, s1, s2, s3, s4, s5, s6, s7, s8⟩, _⟩ := row9 hS.1; have o0 := hS.2.looks.outer k hlt; have a1 : W.cell? ⟨G' k, fr, none⟩ = some (.int .i64 (x.look k fr)) := (hS.2.looks.cell hlt hlf).1; obtain ⟨d0, d1, d2, d3⟩ := hS.2.rows.cellsIn hlt fr hlf; have a2 : W.cell? ⟨G' k, T, none⟩ = some (.int .i64 (x.look k T)) := (hS.2.looks.cell hlt hl2).1; obtain ⟨e0, e1, e2, e3⟩ := hS.2.rows.cellsIn hlt T hl2; go_simp; try with_reducible rfl)
                refine kSI 18 hHeld ?_
                refine kSI 19 hHeld ?_
                try refine kNI ?_
                refine kHI (v := ?_) 20 hHeld ?y21 ?_
                case y21 => (intro W hSw; have hS := HJ.out _ _ hSw; obtain ⟨⟨s0, s1, s2, s3, s4, s5, s6, s7, s8⟩, _⟩ := row9 hS.1; have o0 := hS.2.looks.outer k hlt; have a1 : W.cell? ⟨G' k, fr, none⟩ = some (.int .i64 (x.look k fr)) := (hS.2.looks.cell hlt hlf).1; obtain ⟨d0, d1, d2, d3⟩ := hS.2.rows.cellsIn hlt fr hlf; have a2 : W.cell? ⟨G' k, T, none⟩ = some (.int .i64 (x.look k T)) := (hS.2.looks.cell hlt hl2).1; obtain ⟨e0, e1, e2, e3⟩ := hS.2.rows.cellsIn hlt T hl2; go_simp; try with_reducible rfl)
                refine kSI 21 hHeld ?_
                refine kSI 22 hHeld ?_
                refine kSI 23 hHeld ?_
                refine kUI 24 hHeld ?_
                try refine kNI ?_
                refine kUI 25 hHeld ?_
                refine kUI 26 hHeld ?_
                refine kUI 27 hHeld ?_
                refine kUI 28 hHeld ?_
                refine kUI 29 hHeld ?_
                try refine kNI ?_
                refine kUI 30 hHeld ?_
                refine kUI 31 hHeld ?_
                refine kUI 32 hHeld ?_
                refine kUI 33 hHeld ?_
                refine kUI 34 hHeld ?_
                try refine kNI ?_
                refine kSI 35 hHeld ?_
                try refine kNI ?_
                refine wpAnyI_done (by kernel_rfl) ?_ _
                refine NoPanic.normal ?_
              rotate_left
              focus
                have hlz : ¬ (T : Int) < (x.S.D.C : Int) := by omega
                clear hl2
                refine wpIn_region_i (S := fun W : World => J pr W) 999 (by kernel_rfl) (HJ3.out) (fun hHeld => ?_)
                refine kSI 0 hHeld ?_
                refine kSI 1 hHeld ?_
                refine kSI 2 hHeld ?_
                refine kSI 3 hHeld ?_
                refine kSI 4 hHeld ?_
                try refine kNI ?_
                refine kUI 5 hHeld ?_
                refine kUI 6 hHeld ?_
                refine kUI 7 hHeld ?_
                refine kUI 8 hHeld ?_
                refine kUI 9 hHeld ?_
                try refine kNI ?_
                refine kUI 10 hHeld ?_
                refine kUI 11 hHeld ?_
                refine kUI 12 hHeld ?_
                refine kUI 13 hHeld ?_
                refine kUI 14 hHeld ?_
                try refine kNI ?_
                refine kUI 15 hHeld ?_
                refine kUI 16 hHeld ?_
                refine kUI 17 hHeld ?_
                refine kUI 18 hHeld ?_
                refine kUI 19 hHeld ?_
                try refine kNI ?_
                refine kUI 20 hHeld ?_
                refine kUI 21 hHeld ?_
                refine kSI 22 hHeld ?_
                refine kSI 23 hHeld ?_
                refine kUI 24 hHeld ?_
                try refine kNI ?_
                refine kUI 25 hHeld ?_
                refine kUI 26 hHeld ?_
                refine kUI 27 hHeld ?_
                refine kUI 28 hHeld ?_
                refine kUI 29 hHeld ?_
                try refine kNI ?_
                refine kUI 30 hHeld ?_
                refine kUI 31 hHeld ?_
                refine kUI 32 hHeld ?_
                refine kUI 33 hHeld ?_
                refine kUI 34 hHeld ?_
                try refine kNI ?_
                refine kSI 35 hHeld ?_
                try refine kNI ?_
                refine wpAnyI_done (by kernel_rfl) ?_ _
                refine NoPanic.normal ?_
              rotate_left
              all_goals (
                clear hHeld
                gi_upto_region 8 with fail
                refine wpIn_region_i (S := fun W : World => J pr W) 25 (by kernel_rfl) (HB.out _ _ _ HJ3.out (Below.refl _ _).drew) (fun hHeld => ?_)
                refine kSI 0 hHeld ?_
                refine kSI 1 hHeld ?_
                refine kSI 2 hHeld ?_
                refine kSI 3 hHeld ?_
                refine kSI 4 hHeld ?_
                try refine kNI ?_
                refine kSI 5 hHeld ?_
                refine kSI 6 hHeld ?_
                refine kTI (v := ?_) 7 [24, 13, 12, 10, 9] hHeld ?y8 ?_
                case y8 => (intro W hSw; have hS := HJ.out _ _ hSw; obtain ⟨⟨s0, s1, s2, s3, s4, s5, s6, s7, s8⟩, _⟩ := row9 hS.1; have o0 := hS.2.looks.outer k hlt; have a1 : W.cell? ⟨G' k, fr, none⟩ = some (.int .i64 (x.look k fr)) := (hS.2.looks.cell hlt hlf).1; obtain ⟨d0, d1, d2, d3⟩ := hS.2.rows.cellsIn hlt fr hlf; go_simp; try with_reducible rfl)
                refine kSI 8 hHeld ?_
                refine kSI 9 hHeld ?_
                try refine kNI ?_
                refine kTI (v := ?_) 10 [24, 13, 12] hHeld ?y11 ?_
                case y11 => (intro W hSw; have hS := HJ.out _ _ hSw; obtain ⟨⟨s0, s1, s2, s3, s4, s5, s6, s7, s8⟩, _⟩ := row9 hS.1; have o0 := hS.2.looks.outer k hlt; have a1 : W.cell? ⟨G' k, fr, none⟩ = some (.int .i64 (x.look k fr)) := (hS.2.looks.cell hlt hlf).1; obtain ⟨d0, d1, d2, d3⟩ := hS.2.rows.cellsIn hlt fr hlf; go_simp; try with_reducible rfl)
                refine kSI 11 hHeld ?_
                refine kSI 12 hHeld ?_
                refine kTI (v := ?_) 13 [24] hHeld ?y14 ?_
                case y14 => (intro W hSw; have hS := HJ.out _ _ hSw; obtain ⟨⟨s0, s1, s2, s3, s4, s5, s6, s7, s8⟩, _⟩ := row9 hS.1; have o0 := hS.2.looks.outer k hlt; have a1 : W.cell? ⟨G' k, fr, none⟩ = some (.int .i64 (x.look k fr)) := (hS.2.looks.cell hlt hlf).1; obtain ⟨d0, d1, d2, d3⟩ := hS.2.rows.cellsIn hlt fr hlf; go_simp; try with_reducible rfl)
                refine kSI 14 hHeld ?_
                try refine kNI ?_
                refine kSI 15 hHeld ?_
                refine kSI 16 hHeld ?_
                refine kSI 17 hHeld ?_
                refine kTI (v := ?_) 18 [24] hHeld ?y19 ?_
                case y19 => (intro W hSw; have hS := HJ.out _ _ hSw; obtain ⟨⟨s0, s1, s2, s3, s4, s5, s6, s7, s8⟩, _⟩ := row9 hS.1; have o0 := hS.2.looks.outer k hlt; have a1 : W.cell? ⟨G' k, fr, none⟩ = some (.int .i64 (x.look k fr)) := (hS.2.looks.cell hlt hlf).1; obtain ⟨d0, d1, d2, d3⟩ := hS.2.rows.cellsIn hlt fr hlf; go_simp; try with_reducible rfl)
                refine kSI 19 hHeld ?_
                try refine kNI ?_
                refine kSI 20 hHeld ?_
                refine kSI 21 hHeld ?_
                refine kSI 22 hHeld ?_
                try refine kNI ?_
                refine kOI 23 fun KQ hKQ => ?_
                go_simp
                first | refine ⟨trivial, ?_⟩ | refine ⟨fun _ => hn, ?_⟩ | skip
                gi_at_call 27
                refine (callsIn_wide.2 (HGL.out _ hHeld)).mono ?_
                rintro e w5 ⟨rfl, hb5⟩
                have hJ5 := HB.out _ _ _ hHeld hb5
                clear hb5
                gi_wp2_with fail
                refine hKQ.out _ _ (hJ5) ?_
                clear hHeld hKQ KQ
                intro hHeld
                try refine kNI ?_
                clear hJ5
                refine kSI 24 hHeld ?_
                try refine kNI ?_
                obtain ⟨fn, tmps, assign, body, hy, hR⟩ := HY.out pr _ _ hHeld HPRE.out
                have HR := Lib.hid hR
                unfold runV at hy
                clear hR hHeld
                refine kPI 25 fun KQ hKQ => ?_
                go_simp
                gi_wp2_with fail
                refine HR.out.mono ?_
                rintro e W3 (⟨rfl, hJ6⟩ | ⟨rfl, hJx⟩)
                · have HJ6 := Lib.hid hJ6
                  clear hJ6
                  gi_wp2_with fail
                  refine hKQ.out _ _ ?_
                  clear hKQ KQ
                  try refine kNI ?_
                  refine kBI 26 ?_
                  try refine kNI ?_
                  refine wpAnyI_done (by kernel_rfl) ?_ _
                  refine NoPanic.normal ?_
                  gi_wp2
                  exact ⟨⟨T, q', _, rfl, by omega, by omega, by rw [List.append_assoc]; exact HEQ2.out, HJ6.out⟩, by simp [intOf]; omega⟩
                · have HJ6 := Lib.hid hJx
                  clear hJx
                  gi_wp2_with fail
                  refine hKQ.out _ _ ?_
                  clear hKQ KQ
                  try refine kNI ?_
                  refine kBI 26 ?_
                  try refine kNI ?_
                  refine wpAnyI_done (by kernel_rfl) ?_ _
                  refine NoPanic.normal ?_
                  gi_wp2
                  exact bodyPost_ret (results_none rfl _ _ _) rfl ⟨⟨_, rfl⟩, .inr ⟨_, HPRE.out, HJ6.out⟩⟩)
        · obtain rfl : fr = x.S.D.C := by omega
          have HEQ2 := Lib.hid (show pr ++ runsD x.S.D x.look (k + 1) (x.S.D.R - (k + 1)) = allN x.S.D x.look by rw [hm2]; rw [runsC_none] at heq; exact heq)
          have HJ2 := Lib.hid hj
          clear heq hj
          gi_wp2
          exact ⟨⟨k + 1, pr, by omega, rfl, HEQ2.out, HJ2.out⟩, by simp [intOf]; omega⟩
    · obtain rfl : k = x.S.D.R := by omega
      rw [Nat.sub_self] at heq
      have heq2 : pre = allN x.S.D x.look := by
        have : pre ++ [] = allN x.S.D x.look := heq
        rwa [List.append_nil] at this
      have HJJ := Lib.hid hj
      have HEQ := Lib.hid heq2
      clear hj heq heq2
      gi_wp2
      go_end0
      exact ⟨⟨_, rfl⟩, .inl ⟨pre, HEQ.out, HJJ.out⟩⟩
end Go.Proofs.YtliacdaddncmaaaGreatDoor
