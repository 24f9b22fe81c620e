import Derived.Test.YtncgigapgklhcaaGreatDoorHJ
import Derived.Test.YtncgigapgklhcaaGreatDoorHG
import Derived.ScopeJumps
import Derived.WalkMore

set_option maxRecDepth 100000
set_option maxHeartbeats 16000000
/- Walks: ink.around. -/
namespace Vz
theorem go_mod (x : Int) (a : Int) (ha : 0 < a) : Int.tmod (Int.tmod x a + a) a = x % a := by
 have h1 : Int.tmod x a % a = x % a := by
  rw [Int.tmod_def, Int.sub_mul_emod_self_left]
 have h2 : 0 ≤ Int.tmod x a + a := by
  rcases Int.le_total 0 x with hx | hx
  · rw [Int.tmod_eq_emod_of_nonneg hx]
    have := Int.emod_nonneg x (show a ≠ 0 by omega)
    omega
  · have h3 : Int.tmod x a = -(Int.tmod (-x) a) := by rw [Int.neg_tmod, Int.neg_neg]
    rw [h3, Int.tmod_eq_emod_of_nonneg (show 0 ≤ -x by omega)]
    have := Int.emod_lt_of_pos (-x) ha
    omega
 rw [Int.tmod_eq_emod_of_nonneg h2, Int.add_emod_right, h1]
theorem tmod_in (x a : Int) (ha : 0 < a) : -a < Int.tmod x a ∧ Int.tmod x a < a := by
 rcases Int.le_total 0 x with hx | hx
 · rw [Int.tmod_eq_emod_of_nonneg hx]
   have h1 := Int.emod_nonneg x (show a ≠ 0 by omega)
   have h2 := Int.emod_lt_of_pos x ha
   omega
 · have h3 : Int.tmod x a = -(Int.tmod (-x) a) := by rw [Int.neg_tmod, Int.neg_neg]
   rw [h3, Int.tmod_eq_emod_of_nonneg (show 0 ≤ -x by omega)]
   have h1 := Int.emod_nonneg (-x) (show a ≠ 0 by omega)
   have h2 := Int.emod_lt_of_pos (-x) ha
   omega
def roundI (n f : Nat) (by_ : Int) (i : Nat) : Nat := (((f : Int) + (i : Int) * by_) % (n : Int)).toNat
theorem roundI_lt (n f : Nat) (by_ : Int) (i : Nat) (h : 0 < n) : roundI n f by_ i < n := by
 unfold roundI
 have h1 := Int.emod_nonneg ((f : Int) + (i : Int) * by_) (show (n : Int) ≠ 0 by omega)
 have h2 := Int.emod_lt_of_pos ((f : Int) + (i : Int) * by_) (show (0 : Int) < n by omega)
 omega
theorem roundI_int (n f : Nat) (by_ : Int) (i : Nat) (h : 0 < n) : Int.tmod (Int.tmod ((f : Int) + (i : Int) * by_) n + n) n = (roundI n f by_ i : Int) := by
 rw [go_mod _ _ (by omega)]
 unfold roundI
 have h1 := Int.emod_nonneg ((f : Int) + (i : Int) * by_) (show (n : Int) ≠ 0 by omega)
 omega
end Vz
namespace Go.Proofs.YtncgigapgklhcaaGreatDoor
open Go.RowKit
set_option linter.unusedSimpArgs false
set_option linter.unusedVariables false
attribute [local go_sem] alloc_drewN setCell_drewN World.cell?_alloc_some frozen_alloc_some size_f0 size_f1
def Below.world {n : Nat} {a b : World} (_ : Below n a b) : World := b
def arV (C : Nat) (x : Nat) : Array Value := #[.agg #[.int .i64 ((x / C : Nat) : Int), .int .i64 ((x % C : Nat) : Int)]]
def ArG (R C b1 b2 b3 : Nat) (p : Vz.Ps) (by_ : Int) (W : World) : Prop := W.heap[b1]? = some (.cells #[.int .i64 R, .int .i64 C] 23 (0, 0)) ∧ W.heap[b2]? = some (.cells #[.int .i64 p.row, .int .i64 p.col] 36 (0, 0)) ∧ W.heap[b3]? = some (.cells #[.int .i64 by_] 3 (0, 0))
def arI (R C : Nat) (f : Nat) (by_ : Int) (pre : List Nat) : Prop := pre = (List.range pre.length).map (Vz.roundI (R * C) f by_)
def ArT (R C : Nat) (f : Nat) (by_ : Int) (pre : List Nat) (x : Nat) (W : World) : Prop := x = Vz.roundI (R * C) f by_ pre.length ∧ pre.length < R * C ∧ arI R C f by_ pre
theorem arI_snoc {R C f : Nat} {by_ : Int} {pre : List Nat} (h : arI R C f by_ pre) : arI R C f by_ (pre ++ [Vz.roundI (R * C) f by_ pre.length]) := by
 unfold arI at *
 rw [List.length_append, List.length_singleton, List.range_succ, List.map_append, ← h]
 rfl
def nearN (R C : Nat) (p : Vz.Ps) : Nat := (Vz.nearP R C p).row.toNat * C + (Vz.nearP R C p).col.toNat
theorem around1_in (n : Nat) (hn : 1 ≤ n) (l b1 b2 b3 R C : Nat) (p : Vz.Ps) (by_ : Int) (hby : -1 ≤ by_ ∧ by_ ≤ 1) (hm : Vz.mayS R C = true) (Kp : World → World → Prop) (J Jx : List Nat → World → Prop) (hJ : ∀ s A, J s A → ArG R C b1 b2 b3 p by_ A)
 (hY : ∀ pre x W, J pre W → ArT R C (nearN R C p) by_ pre x W → YieldAt Fence.wide (n - 1) Tryz.prog l (arV C x) W fun e W' =>
   (e = .returned (.bool true) ∧ J (pre ++ [x]) W' ∧ Kp W W') ∨ (e = .returned (.bool false) ∧ Jx (pre ++ [x]) W'))
 (W : World) (hAb : AbidesFrom W.heap.size J) (h0 : J [] W) :
 CallsIn Fence.wide n Tryz.prog 164 #[.func (.yield l) #[] #[], .pointer (some ⟨b1, 0, none⟩), .pointer (some ⟨b2, 0, none⟩), .pointer (some ⟨b3, 0, none⟩)] W fun e W' => (∃ v, e = .returned v) ∧
  ((∃ ys, (ys.length = R * C ∧ arI R C (nearN R C p) by_ ys) ∧ J ys W') ∨ (∃ pre, (pre.length ≤ R * C ∧ arI R C (nearN R C p) by_ pre) ∧ Jx pre W')) := by
 have HJ := Lib.hid hJ
 have HY := Lib.hid hY
 have HAB : Hid (∀ s W', J s W → Below W.heap.size W W' → J s W') := fun s W' hj hb => hAb s W W' none hj (grown_of_below hb) (fun r e => by cases e)
 have HABG : Hid (∀ s A B, J s A → Below A.heap.size A B → J s B) := fun s A B hj hb => hAb s A B none hj (grown_of_below hb) (fun r e => by cases e)
 have H0 := Lib.hid h0
 have hG0 := hJ _ _ h0
 have hmm := (Vz.mayS_iff R C).1 hm
 obtain ⟨m1, m2, m3, m4⟩ := hmm
 have hnin := Vz.nearP_in R C p hm
 obtain ⟨ni, nj, hnp, hni, hnj⟩ := Ps.nats hnin
 have hnN : nearN R C p = ni * C + nj := by unfold nearN; rw [hnp]; rfl
 have HNR := Lib.hid (near_pos R C p.row p.col)
 have hnp' : Vz.nearP R C ⟨p.row, p.col⟩ = ⟨ni, nj⟩ := hnp
 rw [hnp'] at HNR
 have HIX := Lib.hid (index_ok R C ni nj hm hni hnj)
 rw [← hnN] at HIX
 have hall : 1 ≤ R * C ∧ R * C ≤ 255 * 255 := ⟨Nat.mul_pos (by omega) (by omega), Nat.mul_le_mul (by omega) (by omega)⟩
 have hfl : nearN R C p < R * C := by
  rw [hnN]
  exact Nat.lt_of_lt_of_le (show ni * C + nj < (ni + 1) * C by rw [Nat.succ_mul]; omega) (Nat.mul_le_mul_right C hni)
 have HOF := Lib.hid (fun q (hq : q < R * C) => of_ok R C q hm hq)
 clear hJ hY hAb h0 hnin hnp hnp' hnN hm
 generalize nearN R C p = f at *
 refine callsIn_of_wp Tryz.func164 rfl trivial ?_ rfl
 simp only [Tryz.ntmps164, List.size_toArray, List.length_cons, List.length_nil, Nat.reduceAdd, Nat.reduceSub, Array.replicate_succ, Array.replicate_zero, List.push_toArray, List.append_toArray, List.nil_append, List.cons_append]
 have HGC : Hid (∀ W', Below W.heap.size W W' → ArG R C b1 b2 b3 p by_ W') := fun W' hb => HJ.out _ _ (HAB.out _ _ H0.out hb)
 gi_wp2
 refine wpIn_wide.2 ?_
 refine wp_region_noPanic ?_
 refine wp_region_k (S := fun W' : World => Below W.heap.size W W') 4 (by kernel_rfl) ((Below.refl _ _).drew) (fun hHeld => ?_)
 refine kTK (v := ?_) 0 [] hHeld ?y1 ?_
 case y1 => (intro W hSw; obtain ⟨y1, y2, y3⟩ := HGC.out _ hSw; obtain ⟨p0, p1, _⟩ := row2 y1; obtain ⟨q0, q1, _⟩ := row2 y2; go_simp; try with_reducible rfl)
 refine kTK (v := ?_) 1 [3] hHeld ?y2 ?_
 case y2 => (intro W hSw; obtain ⟨y1, y2, y3⟩ := HGC.out _ hSw; obtain ⟨p0, p1, _⟩ := row2 y1; obtain ⟨q0, q1, _⟩ := row2 y2; go_simp; try with_reducible rfl)
 refine kTK (v := ?_) 2 [3] hHeld ?y3 ?_
 case y3 => (intro W hSw; obtain ⟨y1, y2, y3⟩ := HGC.out _ hSw; obtain ⟨p0, p1, _⟩ := row2 y1; obtain ⟨q0, q1, _⟩ := row2 y2; go_simp; try with_reducible rfl)
 try refine kNK ?_
 refine kOK 3 fun KQ hKQ => ?_
 go_simp
 go_at_call 91
 refine (HNR.out _).mono ?_
 rintro e wa ⟨rfl, hg⟩
 have HBa := Lib.hid (Below.later hHeld hg.below hHeld.size)
 clear hg
 go_wp2_with fail
 refine hKQ.out _ _ (HBa.out) ?_
 clear hHeld hKQ KQ
 intro hHeld
 try refine kNK ?_
 refine kPK 4 fun KQ hKQ => ?_
 go_simp
 go_at_call 127
 refine (HIX.out _).mono ?_
 rintro e wb ⟨rfl, hbb⟩
 have HBb := Lib.hid (Below.later hHeld hbb hHeld.size)
 clear hbb
 go_wp2_with fail
 refine hKQ.out _ _ ?_
 clear hKQ KQ
 try refine kNK ?_
 refine kBK 5 ?_
 refine kBK 6 ?_
 refine kBK 7 ?_
 refine kBK 8 ?_
 refine kBK 9 ?_
 try refine kNK ?_
 refine wpAnyK_done (by kernel_rfl) ?_ _
 refine NoPanic.normal ?_
 clear hHeld
 obtain ⟨y1, y2, y3⟩ := HGC.out _ HBb.out
 obtain ⟨p0, p1, _⟩ := row2 y1
 have hw1 : IntKind.i64.wrap ((R : Int) * (C : Int)) = ((R * C : Nat) : Int) := by rw [← Int.natCast_mul]; exact wrap_in (by omega) (by omega)
 clear y1 y2 y3
 unfold arI at *
 generalize haa : R * C = a at *
 gi_wp2
 gi_loopw [25] (fun v wr => ∃ (i : Nat) (pre : List Nat), i ≤ a ∧ v = .int .i64 i ∧ pre.length = i ∧ pre = (List.range pre.length).map (Vz.roundI a f by_) ∧ J pre wr) (fun v _ => a - (intOf v).toNat)
 case atStart => exact ⟨0, [], Nat.zero_le _, rfl, rfl, rfl, HAB.out _ _ H0.out HBb.out⟩
 case round =>
  clear p0 p1
  obtain ⟨i, pre, hi, rfl, hlen, hpre, hj⟩ := hrel
  by_cases hlt : i < a
  · have HLE := Lib.hid hlen
    have HPR := Lib.hid hpre
    have HJJ := Lib.hid hj
    have HGW : Hid (∀ W', Below wr.heap.size wr W' → ArG R C b1 b2 b3 p by_ W') := fun W' hb => HJ.out _ _ (HABG.out _ _ _ hj hb)
    have hib : -(i : Int) ≤ (i : Int) * by_ ∧ (i : Int) * by_ ≤ i := by
     obtain rfl | rfl | rfl : by_ = -1 ∨ by_ = 0 ∨ by_ = 1 := by omega
     · rw [Int.mul_neg, Int.mul_one]; omega
     · rw [Int.mul_zero]; omega
     · rw [Int.mul_one]; omega
    have hq := Vz.roundI_int a f by_ i (by omega)
    have hql := Vz.roundI_lt a f by_ i (by omega)
    have hlt' : (i : Int) < (a : Int) := by omega
    have ha0 : ¬ a = 0 := by omega
    have HQE : Hid (Vz.roundI a f by_ i = Vz.roundI a f by_ i) := rfl
    generalize hm : (i : Int) * by_ = m at *
    have v1 : IntKind.i64.wrap m = m := wrap_in (by omega) (by omega)
    have v2 : IntKind.i64.wrap ((f : Int) + m) = (f : Int) + m := wrap_in (by omega) (by omega)
    have ht : -(a : Int) < Int.tmod ((f : Int) + m) a ∧ Int.tmod ((f : Int) + m) a < a := Vz.tmod_in _ _ (by omega)
    have v3 : IntKind.i64.wrap (Int.tmod ((f : Int) + m) a) = Int.tmod ((f : Int) + m) a := wrap_in (by omega) (by omega)
    have v4 : IntKind.i64.wrap (Int.tmod ((f : Int) + m) a + (a : Int)) = Int.tmod ((f : Int) + m) a + (a : Int) := wrap_in (by omega) (by omega)
    have hai : ¬ (a : Int) = 0 := by omega
    have HOQ := Lib.hid (HOF.out _ hql)
    generalize hqq : Vz.roundI a f by_ i = q at *
    generalize hnd : q / C = nd at *
    generalize hnr : q % C = nr at *
    have v5 : IntKind.i64.wrap (q : Int) = (q : Int) := wrap_in (by omega) (by omega)
    have hwi : IntKind.i64.wrap ((i : Int) + 1) = ((i + 1 : Nat) : Int) := by rw [wrap_in (by omega) (by omega)]; rfl
    clear hlen hpre hj
    gi_wp2
    refine wpIn_wide.2 ?_
    refine wp_region_noPanic ?_
    refine wp_region_k (S := fun W' : World => Below wr.heap.size wr W') 17 (by kernel_rfl) ((Below.refl _ _).drew) (fun hHeld => ?_)
    refine kTK (v := ?_) 0 [] hHeld ?y1 ?_
    case y1 => (intro W hSw; obtain ⟨y1, y2, y3⟩ := HGW.out _ hSw; obtain ⟨p0, p1, _⟩ := row2 y1; have r0 := (cell_row y3 0 : W.cell? ⟨b3, 0, none⟩ = some (.int .i64 by_)); go_simp; try with_reducible rfl)
    refine kSK 1 hHeld ?_
    refine kSK 2 hHeld ?_
    refine kTK (v := ?_) 3 [] hHeld ?y4 ?_
    case y4 => (intro W hSw; obtain ⟨y1, y2, y3⟩ := HGW.out _ hSw; obtain ⟨p0, p1, _⟩ := row2 y1; have r0 := (cell_row y3 0 : W.cell? ⟨b3, 0, none⟩ = some (.int .i64 by_)); go_simp; try with_reducible rfl)
    refine kSK 4 hHeld ?_
    try refine kNK ?_
    refine kSK 5 hHeld ?_
    refine kSK 6 hHeld ?_
    refine kSK 7 hHeld ?_
    refine kSK 8 hHeld ?_
    refine kSK 9 hHeld ?_
    try refine kNK ?_
    refine kSK 10 hHeld ?_
    refine kSK 11 hHeld ?_
    try refine kNK ?_
    refine wpAnyK_ready (rs := [12, 16]) (by kernel_rfl) (by simp) ?_
    refine AllReadyK.cons rfl (fun KQ hKQ => ?_) (AllReadyK.cons rfl (fun KQ hKQ => ?_) AllReadyK.nil)
    focus
     obtain ⟨Wc, hWc⟩ : ∃ Wc, Wc = Below.world hHeld := ⟨_, rfl⟩
     simp only [Below.world] at hWc
     rw [← hWc] at hHeld ⊢
     try rw [← hWc] at HF
     clear hWc
     go_simp
     go_at_call 128
     refine (HOQ.out _).mono ?_
     rintro e wa ⟨rfl, hba⟩
     try (have HFn := Lib.hid ((hba.block _ (block_lt HF.out)).trans HF.out); clear HF; have HF := HFn; clear HFn)
     have hHn := Below.later hHeld hba hHeld.size
     clear hba
     go_wp2_with fail
     refine hKQ.out _ _ (hHn) ?_
     clear hHeld hKQ KQ
     intro hHeld
     try refine kNK ?_
     refine kSK 13 hHeld ?_
     refine kSK 14 hHeld ?_
     refine kSK 15 hHeld ?_
     try refine kNK ?_
     refine kOK 16 fun KQ hKQ => ?_
     obtain ⟨Wc, hWc⟩ : ∃ Wc, Wc = Below.world hHeld := ⟨_, rfl⟩
     simp only [Below.world] at hWc
     rw [← hWc] at hHeld ⊢
     try rw [← hWc] at HF
     clear hWc
     go_simp
     have hnew := heap_alloc_new Wc (.cells #[.int .i64 0, .int .i64 0] 36)
     have hbn := below1 Wc (.cells #[.int .i64 0, .int .i64 0] 36)
     have hnz : wr.heap.size ≤ Wc.heap.size := hHeld.size
     have HF := Lib.hid hnew
     have hHn := Below.later hHeld hbn hHeld.size
     clear hnew hbn
     generalize Wc.alloc (.cells #[.int .i64 0, .int .i64 0] 36) = Wd at *
     generalize Wc.heap.size = g at *
     refine hKQ.out _ _ (hHn) ?_
     clear hHeld hKQ KQ
     intro hHeld
     try refine kNK ?_
     refine kPK 17 fun KQ hKQ => ?_
     obtain ⟨Wc, hWc⟩ : ∃ Wc, Wc = Below.world hHeld := ⟨_, rfl⟩
     simp only [Below.world] at hWc
     rw [← hWc] at hHeld ⊢
     try rw [← hWc] at HF
     clear hWc
     obtain ⟨d0, d1, g0, g1⟩ := row2 HF.out
     go_simp
     refine hKQ.out _ _ ?_
     clear hKQ KQ
     try refine kNK ?_
     refine kBK 18 ?_
     try refine kNK ?_
     refine wpAnyK_done (by kernel_rfl) ?_ _
     refine NoPanic.normal ?_
    rotate_left 1
    focus
     obtain ⟨Wc, hWc⟩ : ∃ Wc, Wc = Below.world hHeld := ⟨_, rfl⟩
     simp only [Below.world] at hWc
     rw [← hWc] at hHeld ⊢
     try rw [← hWc] at HF
     clear hWc
     go_simp
     have hnew := heap_alloc_new Wc (.cells #[.int .i64 0, .int .i64 0] 36)
     have hbn := below1 Wc (.cells #[.int .i64 0, .int .i64 0] 36)
     have hnz : wr.heap.size ≤ Wc.heap.size := hHeld.size
     have HF := Lib.hid hnew
     have hHn := Below.later hHeld hbn hHeld.size
     clear hnew hbn
     generalize Wc.alloc (.cells #[.int .i64 0, .int .i64 0] 36) = Wd at *
     generalize Wc.heap.size = g at *
     refine hKQ.out _ _ (hHn) ?_
     clear hHeld hKQ KQ
     intro hHeld
     try refine kNK ?_
     refine kOK 12 fun KQ hKQ => ?_
     obtain ⟨Wc, hWc⟩ : ∃ Wc, Wc = Below.world hHeld := ⟨_, rfl⟩
     simp only [Below.world] at hWc
     rw [← hWc] at hHeld ⊢
     try rw [← hWc] at HF
     clear hWc
     go_simp
     go_at_call 128
     refine (HOQ.out _).mono ?_
     rintro e wa ⟨rfl, hba⟩
     try (have HFn := Lib.hid ((hba.block _ (block_lt HF.out)).trans HF.out); clear HF; have HF := HFn; clear HFn)
     have hHn := Below.later hHeld hba hHeld.size
     clear hba
     go_wp2_with fail
     refine hKQ.out _ _ (hHn) ?_
     clear hHeld hKQ KQ
     intro hHeld
     try refine kNK ?_
     refine kSK 13 hHeld ?_
     refine kSK 14 hHeld ?_
     refine kSK 15 hHeld ?_
     try refine kNK ?_
     refine kPK 17 fun KQ hKQ => ?_
     obtain ⟨Wc, hWc⟩ : ∃ Wc, Wc = Below.world hHeld := ⟨_, rfl⟩
     simp only [Below.world] at hWc
     rw [← hWc] at hHeld ⊢
     try rw [← hWc] at HF
     clear hWc
     obtain ⟨d0, d1, g0, g1⟩ := row2 HF.out
     go_simp
     refine hKQ.out _ _ ?_
     clear hKQ KQ
     try refine kNK ?_
     refine kBK 18 ?_
     try refine kNK ?_
     refine wpAnyK_done (by kernel_rfl) ?_ _
     refine NoPanic.normal ?_
    rotate_left 1
    all_goals (
     have hgz : wr.heap.size ≤ g := by first | exact hnz | omega
     have hWE : Below wr.heap.size wr ((Wc.setCell ⟨g, 0, none⟩ (.int .i64 (nd : Int))).setCell ⟨g, 1, none⟩ (.int .i64 (nr : Int))) := (hHeld.setCell (p := ⟨g, 0, none⟩) hgz _).setCell (p := ⟨g, 1, none⟩) hgz _
     have hf5 := set_two HF.out (.int .i64 (nd : Int)) (.int .i64 (nr : Int))
     clear HF hHeld d0 d1 g0 g1
     have hj5 := HABG.out pre _ _ HJJ.out hWE
     have hT : ArT R C f by_ pre q ((Wc.setCell ⟨g, 0, none⟩ (.int .i64 (nd : Int))).setCell ⟨g, 1, none⟩ (.int .i64 (nr : Int))) := ⟨by rw [haa, HLE.out]; exact hqq.symm, by rw [haa, HLE.out]; exact hlt, by unfold arI; rw [haa]; exact HPR.out⟩
     have hYY := HY.out pre q _ hj5 hT
     have HPS : Hid (pre ++ [q] = (List.range (pre ++ [q]).length).map (Vz.roundI a f by_)) := by
      have := arI_snoc (R := R) (C := C) hT.2.2
      unfold arI at this
      rw [haa, HLE.out, hqq] at this
      exact this
     unfold arV at hYY
     rw [hnd, hnr] at hYY
     generalize ((Wc.setCell ⟨g, 0, none⟩ (.int .i64 (nd : Int))).setCell ⟨g, 1, none⟩ (.int .i64 (nr : Int))) = We at *
     obtain ⟨d0, d1, _⟩ := row2 hf5
     obtain ⟨fn, tmps, assign, body, hy, hR⟩ := hYY
     have HR := Lib.hid hR
     clear hR hT hj5 hWE hf5
     gi_wp2
     refine HR.out.mono ?_
     rintro e W3 (⟨rfl, hJ3, hk3⟩ | ⟨rfl, hJx3⟩)
     · gi_wp2
       exact ⟨⟨i + 1, _, by omega, by go_num, by rw [List.length_append, HLE.out]; rfl, HPS.out, hJ3⟩, by simp [intOf]; omega⟩
     · gi_wp2
       refine bodyPost_ret (results_none rfl _ _ _) rfl ⟨⟨_, rfl⟩, .inr ⟨_, ⟨?_, ?_⟩, hJx3⟩⟩
       · rw [List.length_append, HLE.out, haa]
         exact hlt
       · unfold arI
         rw [haa]
         exact HPS.out)
  · obtain rfl : i = a := by omega
    gi_wp2
    go_end0
    exact ⟨⟨_, rfl⟩, .inl ⟨pre, ⟨hlen.trans haa.symm, by unfold arI; rw [haa]; exact hpre⟩, hj⟩⟩
end Go.Proofs.YtncgigapgklhcaaGreatDoor
namespace Go.Proofs.YtncgigapgklhcaaGreatDoor
open Go.RowKit
set_option linter.unusedSimpArgs false
set_option linter.unusedVariables false
/- Walks: ink.around. -/
section
attribute [local go_sem] alloc_drewN setCell_drewN World.cell?_alloc_some frozen_alloc_some size_f0 size_f1
theorem around_stops (n : Nat) (hn : 1 ≤ n) (b1 b2 b3 R C : Nat) (p : Vz.Ps) (by_ : Int) (hby : -1 ≤ by_ ∧ by_ ≤ 1) (hm : Vz.mayS R C = true) (Kp : World → World → Prop) (w : World) :
 SeqStopsT Fence.wide n Tryz.prog 164 #[.pointer (some ⟨b1, 0, none⟩), .pointer (some ⟨b2, 0, none⟩), .pointer (some ⟨b3, 0, none⟩)] (arV C) Kp (fun ys => ys.length = R * C ∧ arI R C (nearN R C p) by_ ys) (fun pre => pre.length ≤ R * C ∧ arI R C (nearN R C p) by_ pre) (ArT R C (nearN R C p) by_) (ArG R C b1 b2 b3 p by_) w :=
 fun l J Jx W hW hAb _ hJ hY h0 => around1_in n hn l b1 b2 b3 R C p by_ hby hm Kp J Jx hJ hY W hAb h0
theorem around_any (R C : Int) (p : Vz.Ps) (by_ : Int) (w : World) : Calls Tryz.prog 142 #[.agg #[.int .i64 R, .int .i64 C], .agg #[.int .i64 p.row, .int .i64 p.col], .int .i64 by_] w fun e w' => e = .returned (.func (.func 164) #[] #[.pointer (some ⟨w.heap.size, 0, none⟩), .pointer (some ⟨w.heap.size + 1, 0, none⟩), .pointer (some ⟨w.heap.size + 1 + 1, 0, none⟩)]) ∧ w' = ((w.alloc (.cells #[.int .i64 R, .int .i64 C] 23)).alloc (.cells #[.int .i64 p.row, .int .i64 p.col] 36)).alloc (.cells #[.int .i64 by_] 3) := by
 have hmf : ∀ (fn : Fn) (first cap : Array Value) (w : World), (Instr.makeFunc fn first cap).run Tryz.prog w = .ok (.func fn first cap) w := fun _ _ _ _ => rfl
 go_enter Tryz.func142, Tryz.ntmps142
 go_wp2_with fail
 go_ret
 exact ⟨rfl, rfl⟩
end
section
attribute [local go_sem] alloc_drewN setCell_drewN World.cell?_alloc_some frozen_alloc_some size_f0 size_f1 Oper.semAt_some
def freeN (D : Vz.Gd) (q : Nat) : Bool := !(D.X (q / D.C) (q % D.C)).gd
def openN (D : Vz.Gd) (p : Vz.Ps) (by_ : Int) : Option Nat := ((List.range (D.R * D.C)).map (Vz.roundI (D.R * D.C) (nearN D.R D.C p) by_)).find? (freeN D)
theorem find_prefix {α : Type} {f : α → Bool} {l l' : List α} {q : α} (h : l.find? f = some q) : (l ++ l').find? f = some q := by rw [List.find?_append, h]; rfl
theorem arI_find {R C f : Nat} {by_ : Int} {pre : List Nat} {φ : Nat → Bool} {q : Nat} (h : arI R C f by_ pre) (hl : pre.length ≤ R * C) (hf : pre.find? φ = some q) : ((List.range (R * C)).map (Vz.roundI (R * C) f by_)).find? φ = some q := by
 unfold arI at h
 generalize Vz.roundI (R * C) f by_ = G at *
 obtain ⟨m, hm⟩ : ∃ m, R * C = pre.length + m := ⟨R * C - pre.length, by omega⟩
 rw [hm, List.range_add, List.map_append, ← h]
 exact find_prefix hf
theorem find_snoc {α : Type} {f : α → Bool} {l : List α} {q : α} (h : l.find? f = none) : (l ++ [q]).find? f = if f q = true then some q else none := by
 rw [List.find?_append, h]
 cases hq : f q <;> simp [List.find?, hq]
theorem open_in (n : Nat) (hn : 3 ≤ n) (gp : Nat) (F : Nat → Prop) (D : Vz.Gd) (p : Vz.Ps) (by_ : Int) (hby : -1 ≤ by_ ∧ by_ ≤ 1) (w : World) (h : Grid w gp F D) :
 CallsIn Fence.wide n Tryz.prog 120 #[.pointer (some ⟨gp, 0, none⟩), .agg #[.int .i64 p.row, .int .i64 p.col], .int .i64 by_] w fun e w' => e = .returned (match openN D p by_ with | none => .tuple #[.agg #[.int .i64 0, .int .i64 0], .bool false] | some q => .tuple #[.agg #[.int .i64 ((q / D.C : Nat) : Int), .int .i64 ((q % D.C : Nat) : Int)], .bool true]) ∧ Below w.heap.size w w' := by
 have h1 : 1 ≤ n := by omega
 obtain ⟨m1, m2, m3, m4⟩ := h.may
 have H := Lib.hid h
 have HAR := Lib.hid (around_any D.R D.C p by_)
 have HX : Hid (∀ W, Below (w.heap.size + 1 + 1 + 1 + 1 + 1) (((((w.alloc (.cells #[.pointer (some ⟨gp, 0, none⟩)] 77)).alloc (.cells #[.int .i64 p.row, .int .i64 p.col] 36)).alloc (.cells #[.int .i64 0, .int .i64 0] 36)).alloc (.cells #[.int .i64 0, .int .i64 0] 36)).alloc (.cells #[.bool false] 4)) W → W.heap[w.heap.size]? = some (.cells #[.pointer (some ⟨gp, 0, none⟩)] 77 (0, 0)) ∧ W.heap[w.heap.size + 1]? = some (.cells #[.int .i64 p.row, .int .i64 p.col] 36 (0, 0)) ∧ W.heap[w.heap.size + 1 + 1]? = some (.cells #[.int .i64 0, .int .i64 0] 36 (0, 0)) ∧ W.heap[w.heap.size + 1 + 1 + 1]? = some (.cells #[.int .i64 0, .int .i64 0] 36 (0, 0)) ∧ W.heap[w.heap.size + 1 + 1 + 1 + 1]? = some (.cells #[.bool false] 4 (0, 0)) ∧ Below w.heap.size w W) := fun W hb => by
  have h1 := (Has.nil w.heap.size 0 w).alloc (Nat.le_refl _) (.cells #[.pointer (some ⟨gp, 0, none⟩)] 77)
  have h2 := h1.alloc (by simp) (.cells #[.int .i64 p.row, .int .i64 p.col] 36)
  have h3 := h2.alloc (by simp; omega) (.cells #[.int .i64 0, .int .i64 0] 36)
  have h4 := h3.alloc (by simp; omega) (.cells #[.int .i64 0, .int .i64 0] 36)
  have h5 := (h4.alloc (by simp; omega) (.cells #[.bool false] 4)).below (hb.mono (by simp))
  simp only [World.size_alloc] at h5
  exact ⟨h5.nth 4 rfl, h5.nth 3 rfl, h5.nth 2 rfl, h5.nth 1 rfl, h5.nth 0 rfl, Below.later (Grows.below ((((((Grows.refl w).alloc _).alloc _).alloc _).alloc _).alloc _)) (hb.mono (by simp)) (by simp; omega)⟩
 have HD0 : Hid (Below (w.heap.size + 1 + 1 + 1 + 1 + 1) (((((w.alloc (.cells #[.pointer (some ⟨gp, 0, none⟩)] 77)).alloc (.cells #[.int .i64 p.row, .int .i64 p.col] 36)).alloc (.cells #[.int .i64 0, .int .i64 0] 36)).alloc (.cells #[.int .i64 0, .int .i64 0] 36)).alloc (.cells #[.bool false] 4)) ((((((w.alloc (.cells #[.pointer (some ⟨gp, 0, none⟩)] 77)).alloc (.cells #[.int .i64 p.row, .int .i64 p.col] 36)).alloc (.cells #[.int .i64 0, .int .i64 0] 36)).alloc (.cells #[.int .i64 0, .int .i64 0] 36)).alloc (.cells #[.bool false] 4))).drew) := (Below.refl _ _).drew
 have HLE : Hid (∀ W, Below (w.heap.size + 1 + 1 + 1 + 1 + 1) (((((w.alloc (.cells #[.pointer (some ⟨gp, 0, none⟩)] 77)).alloc (.cells #[.int .i64 p.row, .int .i64 p.col] 36)).alloc (.cells #[.int .i64 0, .int .i64 0] 36)).alloc (.cells #[.int .i64 0, .int .i64 0] 36)).alloc (.cells #[.bool false] 4)) W → w.heap.size + 1 + 1 + 1 + 1 + 1 ≤ W.heap.size) := fun W hb => Nat.le_trans (by simp) hb.size
 clear h
 refine callsIn_of_wp_marks Tryz.func120 rfl trivial ?_ rfl
 simp only [Tryz.ntmps120, List.size_toArray, List.length_cons, List.length_nil, Nat.reduceAdd, Nat.reduceSub, Array.replicate_succ, Array.replicate_zero, List.push_toArray, List.append_toArray, List.nil_append, List.cons_append]
 gi_wp2
 refine wpIn_wide.2 (wp_scope_straight ((wpIn_wide (n := n)).1 ?_))
 gi_wp2
 refine wpIn_wide.2 (wp_label ?_)
 gi_wp2
 refine wpIn_wide.2 ?_
 refine wp_region_noPanic ?_
 refine wp_region_k (S := fun W' : World => Below (w.heap.size + 1 + 1 + 1 + 1 + 1) (((((w.alloc (.cells #[.pointer (some ⟨gp, 0, none⟩)] 77)).alloc (.cells #[.int .i64 p.row, .int .i64 p.col] 36)).alloc (.cells #[.int .i64 0, .int .i64 0] 36)).alloc (.cells #[.int .i64 0, .int .i64 0] 36)).alloc (.cells #[.bool false] 4)) W') 4 (by kernel_rfl) (HD0.out) (fun hHeld => ?_)
 refine kTK (v := ?_) 0 [1] hHeld ?y1 ?_
 case y1 => (intro W hSw; obtain ⟨x0, x1, x2, x3, x4, _⟩ := HX.out _ hSw; obtain ⟨p0, p1, _⟩ := row2 x1; have g0 := (cell_row x0 0 : W.cell? ⟨w.heap.size, 0, none⟩ = some (.pointer (some ⟨gp, 0, none⟩))); go_simp; try with_reducible rfl)
 refine kTK (v := ?_) 2 [] hHeld ?y2 ?_
 case y2 => (intro W hSw; obtain ⟨x0, x1, x2, x3, x4, _⟩ := HX.out _ hSw; obtain ⟨p0, p1, _⟩ := row2 x1; have g0 := (cell_row x0 0 : W.cell? ⟨w.heap.size, 0, none⟩ = some (.pointer (some ⟨gp, 0, none⟩))); go_simp; try with_reducible rfl)
 refine kSK 3 hHeld ?_
 try refine kNK ?_
 refine kOK 1 fun KQ hKQ => ?_
 go_simp
 go_at_call 60
 refine (gsize_ok gp F D _ (H.out.below (HX.out _ hHeld).2.2.2.2.2)).mono ?_
 rintro e wa ⟨rfl, hba⟩
 have HBa := Lib.hid (hHeld.trans (hba.mono (HLE.out _ hHeld)))
 clear hba
 go_wp2_with fail
 refine hKQ.out _ _ (HBa.out) ?_
 clear hHeld hKQ KQ
 intro hHeld
 try refine kNK ?_
 refine kPK 4 fun KQ hKQ => ?_
 go_simp
 go_at_call 142
 refine (HAR.out _).mono ?_
 rintro e wb ⟨rfl, rfl⟩
 go_wp2_with fail
 refine hKQ.out _ _ ?_
 clear hKQ KQ
 try refine kNK ?_
 refine wpAnyK_done (by kernel_rfl) ?_ _
 refine NoPanic.normal ?_
 gi_wp2
 have hWR := HX.out _ HBa.out
 obtain ⟨x0, x1, x2, x3, x4, hbw⟩ := hWR
 obtain ⟨n0, n1, n2, nb⟩ := box3 (Below.refl (((wa.alloc (.cells #[.int .i64 D.R, .int .i64 D.C] 23)).alloc (.cells #[.int .i64 p.row, .int .i64 p.col] 36)).alloc (.cells #[.int .i64 by_] 3)).heap.size (((wa.alloc (.cells #[.int .i64 D.R, .int .i64 D.C] 23)).alloc (.cells #[.int .i64 p.row, .int .i64 p.col] 36)).alloc (.cells #[.int .i64 by_] 3)))
 have hz5 := HLE.out _ HBa.out
 have HB3 := Lib.hid (Below.later hbw nb hbw.size)
 have y0 := (nb.block _ (block_lt x0)).trans x0
 have y2 := (nb.block _ (block_lt x2)).trans x2
 have y3 := (nb.block _ (block_lt x3)).trans x3
 have y4 := (nb.block _ (block_lt x4)).trans x4
 have hR : 1 ≤ D.R ∧ D.R ≤ 255 := ⟨m1, m2⟩
 have hC : 1 ≤ D.C ∧ D.C ≤ 255 := ⟨m3, m4⟩
 have hmay : Vz.mayS D.R D.C = true := Vz.Gd.may_mayS H.out.may
 clear x0 x1 x2 x3 x4
 refine wpIn_rangeFunc_T rfl h1 (gf := 164) (lb := #[.pointer (some ⟨wa.heap.size, 0, none⟩), .pointer (some ⟨wa.heap.size + 1, 0, none⟩), .pointer (some ⟨wa.heap.size + 1 + 1, 0, none⟩)]) rfl trivial (enters_of Tryz.func164 (by kernel_rfl) rfl)
  (around_stops (n - 1) (by omega) wa.heap.size (wa.heap.size + 1) (wa.heap.size + 1 + 1) D.R D.C p by_ hby hmay (fun _ _ => True) _) (fun _ _ => trivial) (fun W l o o' _ hl ho _ => trivial) (Below.refl _ _) (fun _ => rfl)
  (fun pre W => Grid W gp F D ∧ W.heap[w.heap.size]? = some (.cells #[.pointer (some ⟨gp, 0, none⟩)] 77 (0, 0)) ∧ W.heap[w.heap.size + 1 + 1]? = some (.cells #[.int .i64 0, .int .i64 0] 36 (0, 0)) ∧ W.heap[w.heap.size + 1 + 1 + 1]? = some (.cells #[.int .i64 0, .int .i64 0] 36 (0, 0)) ∧ W.heap[w.heap.size + 1 + 1 + 1 + 1]? = some (.cells #[.bool false] 4 (0, 0)) ∧ ArG D.R D.C wa.heap.size (wa.heap.size + 1) (wa.heap.size + 1 + 1) p by_ W ∧ Below w.heap.size w W ∧ pre.find? (freeN D) = none)
  (fun c pre W => c = .exit 0 ∧ ∃ q, pre.find? (freeN D) = some q ∧ W.heap[w.heap.size + 1 + 1]? = some (.cells #[.int .i64 0, .int .i64 0] 36 (0, 0)) ∧ W.heap[w.heap.size + 1 + 1 + 1]? = some (.cells #[.int .i64 ((q / D.C : Nat) : Int), .int .i64 ((q % D.C : Nat) : Int)] 36 (0, 0)) ∧ W.heap[w.heap.size + 1 + 1 + 1 + 1]? = some (.cells #[.bool true] 4 (0, 0)) ∧ Below w.heap.size w W)
  ?hI ?hIx ?hT ?hGd ?h0
  (fun x b => { tmps := #[.pointer (some ⟨gp, 0, none⟩), .agg #[.int .i64 p.row, .int .i64 p.col], .int .i64 by_, .pointer (some ⟨w.heap.size, 0, none⟩), .pointer (some ⟨w.heap.size + 1, 0, none⟩), undef, .pointer (some ⟨w.heap.size + 1 + 1, 0, none⟩), .bool false, .pointer (some ⟨w.heap.size + 1 + 1 + 1, 0, none⟩), .pointer (some ⟨w.heap.size + 1 + 1 + 1 + 1, 0, none⟩), .pointer (some ⟨b, 0, none⟩), undef, undef, .agg #[.int .i64 0, .int .i64 0], .pointer (some ⟨gp, 0, none⟩), .agg #[.int .i64 D.R, .int .i64 D.C], .agg #[.int .i64 p.row, .int .i64 p.col], .int .i64 by_, .func (.func 164) #[] #[.pointer (some ⟨wa.heap.size, 0, none⟩), .pointer (some ⟨wa.heap.size + 1, 0, none⟩), .pointer (some ⟨wa.heap.size + 1 + 1, 0, none⟩)], .agg #[.int .i64 ((x / D.C : Nat) : Int), .int .i64 ((x % D.C : Nat) : Int)], undef, undef, undef, undef, undef, undef, undef, undef, undef, undef, undef, undef, undef, undef, undef], defers := [] })
  (fun x W => W.alloc (.cells #[.int .i64 ((x / D.C : Nat) : Int), .int .i64 ((x % D.C : Nat) : Int)] 36)) (fun x b W => W.heap[b]? = some (.cells #[.int .i64 ((x / D.C : Nat) : Int), .int .i64 ((x % D.C : Nat) : Int)] 36 (0, 0)))
  (fun x W => grown_of_below (below1 W _)) (fun x W => trivial) (fun x W => heap_alloc_new W _) (fun p A B row h hg hr => cells_kept hg hr h) ?assign ?body ?done ?stop
 case hI =>
  rintro pre X Y rw ⟨hg, i0, i2, i3, i4, ⟨a0, a1, a2⟩, hB, hf⟩ hgr hrow
  exact ⟨grid_own hg hgr hrow, cells_kept hgr hrow i0, cells_kept hgr hrow i2, cells_kept hgr hrow i3, cells_kept hgr hrow i4, ⟨cells_kept hgr hrow a0, cells_kept hgr hrow a1, cells_kept hgr hrow a2⟩, below_own (by simp; omega) hB hgr hrow, hf⟩
 case hIx =>
  rintro c pre X Y rw ⟨hc, q, hq, i2, i3, i4, hB⟩ hgr hrow
  exact ⟨hc, q, hq, cells_kept hgr hrow i2, cells_kept hgr hrow i3, cells_kept hgr hrow i4, below_own (by simp; omega) hB hgr hrow⟩
 case hT => exact fun p A B row h _ _ => h
 case hGd => exact fun s A h => h.2.2.2.2.2.1
 case h0 => exact ⟨H.out.below HB3.out, y0, y2, y3, y4, ⟨n0, n1, n2⟩, HB3.out, rfl⟩
 case assign =>
  intro l x W K hK
  unfold arV
  generalize x / D.C = pr at *
  generalize x % D.C = pc at *
  gi_wp2
  exact hK
 case body =>
  rintro l pre x b W hb ⟨hg, i0, i2, i3, i4, hAr, hB, hfd⟩ ⟨hx, hlt, hAI⟩ bx0
  have hb' : wa.heap.size + 1 + 1 + 1 ≤ b := by simpa using hb
  have hxl : x < D.R * D.C := by rw [hx]; exact Vz.roundI_lt _ _ _ _ (by omega)
  obtain ⟨hpr, hpc⟩ := place_of x D.R D.C hC.1 hxl
  have hfx : freeN D x = !(D.X (x / D.C) (x % D.C)).gd := rfl
  have hfs := find_snoc (q := x) hfd
  rw [hfx] at hfs
  have hca := gat_ok gp F D ⟨((x / D.C : Nat) : Int), ((x % D.C : Nat) : Int)⟩ W hg ⟨Int.natCast_nonneg _, by show ((x / D.C : Nat) : Int) < _; omega, Int.natCast_nonneg _, by show ((x % D.C : Nat) : Int) < _; omega⟩
  have hatd : atD D ⟨((x / D.C : Nat) : Int), ((x % D.C : Nat) : Int)⟩ = D.X (x / D.C) (x % D.C) := by show D.X (Int.toNat _) (Int.toNat _) = _; rw [Int.toNat_natCast, Int.toNat_natCast]
  rw [hatd] at hca
  have HFS : Hid (∀ W', (W'.heap[w.heap.size + 1 + 1 + 1]? = some (.cells #[.int .i64 ((x / D.C : Nat) : Int), .int .i64 ((x % D.C : Nat) : Int)] 36 (0, 0)) → W'.heap[w.heap.size + 1 + 1]? = some (.cells #[.int .i64 0, .int .i64 0] 36 (0, 0)) → W'.heap[w.heap.size + 1 + 1 + 1 + 1]? = some (.cells #[.bool true] 4 (0, 0)) → Below w.heap.size w W' → (D.X (x / D.C) (x % D.C)).gd = false → (Code.exit 0 = .exit 0 ∧ ∃ q, (pre ++ [x]).find? (freeN D) = some q ∧ W'.heap[w.heap.size + 1 + 1]? = some (.cells #[.int .i64 0, .int .i64 0] 36 (0, 0)) ∧ W'.heap[w.heap.size + 1 + 1 + 1]? = some (.cells #[.int .i64 ((q / D.C : Nat) : Int), .int .i64 ((q % D.C : Nat) : Int)] 36 (0, 0)) ∧ W'.heap[w.heap.size + 1 + 1 + 1 + 1]? = some (.cells #[.bool true] 4 (0, 0)) ∧ Below w.heap.size w W'))) := fun W' k1 k2 k3 k4 k5 => ⟨rfl, x, by rw [hfs, k5]; rfl, k2, k1, k3, k4⟩
  have HFN : Hid ((D.X (x / D.C) (x % D.C)).gd = true → (pre ++ [x]).find? (freeN D) = none) := fun k => by rw [hfs, k]; rfl
  have HCA := Lib.hid hca
  have HG := Lib.hid hg
  have HAr := Lib.hid hAr
  have HBB := Lib.hid hB
  have HI := Lib.hid (show _ ∧ _ ∧ _ ∧ _ from ⟨i0, i2, i3, i4⟩)
  have HBX := Lib.hid bx0
  have hszW : w.heap.size + 1 + 1 + 1 + 1 < W.heap.size := block_lt i4
  obtain ⟨p0, p1, _⟩ := row2 bx0
  have g0 : W.cell? ⟨w.heap.size, 0, none⟩ = some (.pointer (some ⟨gp, 0, none⟩)) := cell_row i0 0
  clear hg hAr hB hca hfs hfx hatd i0 i2 i3 i4 bx0 hx hAI hxl hlt
  generalize x / D.C = pr at *
  generalize x % D.C = pc at *
  generalize hcl : D.X pr pc = cl at *
  generalize hQP : ownPostG _ _ _ _ _ _ = QP
  have HQP := Lib.hid hQP
  clear hQP
  cases hgd : cl.gd
  all_goals
   gi_wp2_with (refine ⟨trivial, (fun h => by cases h), ?_⟩; gi_at_call 39; refine (CallsIn.inRound l (callsIn_wide.2 HCA.out)).mono ?_; rw [hgd]; rintro e w4 ⟨rfl, hb4⟩; have HB4 := Lib.hid hb4; clear p0 p1 g0; obtain ⟨p0, p1, _⟩ := row2 ((hb4.block _ (block_lt HBX.out)).trans HBX.out); obtain ⟨a0, a1, fa0, fa1⟩ := row2 ((hb4.block _ (block_lt HI.out.2.2.1)).trans HI.out.2.2.1); have c0 : w4.cell? ⟨w.heap.size + 1 + 1 + 1 + 1, 0, none⟩ = some (.bool false) := cell_row ((hb4.block _ (block_lt HI.out.2.2.2)).trans HI.out.2.2.2) 0; have fc0 := frozen_row ((hb4.block _ (block_lt HI.out.2.2.2)).trans HI.out.2.2.2) 0; clear hb4)
  · have hbW : Below W.heap.size W (w4.alloc (.cells #[.int .i32 cl.g, .int .i64 cl.a, .bool false, .int .i64 cl.m] 56)) := Below.later HB4.out (below1 w4 _) HB4.out.size
    have HS := Lib.hid hbW
    have HB6 := Lib.hid (Below.later HBB.out hbW HBB.out.size)
    have k3 := (hbW.block _ (block_lt HI.out.2.2.1)).trans HI.out.2.2.1
    have k4 := (hbW.block _ (block_lt HI.out.2.2.2)).trans HI.out.2.2.2
    have k2 := (hbW.block _ (block_lt HI.out.2.1)).trans HI.out.2.1
    rw [← HQP.out]
    clear hbW p0 p1 a0 a1 fa0 fa1 c0 fc0
    refine ⟨Keeps.from (F := fun k => k = w.heap.size + 1 + 1 + 1 ∨ k = w.heap.size + 1 + 1 + 1 + 1) ((((Keeps.of_below HS.out).setCell' (p := ⟨w.heap.size + 1 + 1 + 1, 0, none⟩) (.inl rfl) _).setCell' (p := ⟨w.heap.size + 1 + 1 + 1, 1, none⟩) (.inl rfl) _).setCell' (p := ⟨w.heap.size + 1 + 1 + 1 + 1, 0, none⟩) (.inr rfl) _) (fun k hk => by simp; omega), rfl, (HFS.out _ ?_ ?_ ?_ ?_ hgd).2⟩
    · exact (heap_setCell_other _ _ _ _ (by show w.heap.size + 1 + 1 + 1 ≠ _; simp)).trans (set_two k3 _ _)
    · exact (heap_setCell_other _ _ _ _ (by show w.heap.size + 1 + 1 ≠ _; simp)).trans ((heap_setCell_other _ _ _ _ (by show w.heap.size + 1 + 1 ≠ _; simp)).trans ((heap_setCell_other _ _ _ _ (by show w.heap.size + 1 + 1 ≠ _; simp)).trans k2))
    · exact set_one ((heap_setCell_other _ _ _ _ (by show w.heap.size + 1 + 1 + 1 + 1 ≠ _; simp)).trans ((heap_setCell_other _ _ _ _ (by show w.heap.size + 1 + 1 + 1 + 1 ≠ _; simp)).trans k4)) _
    · exact ((HB6.out.setCell (p := ⟨w.heap.size + 1 + 1 + 1, 0, none⟩) (by show w.heap.size ≤ w.heap.size + 1 + 1 + 1; omega) _).setCell (p := ⟨w.heap.size + 1 + 1 + 1, 1, none⟩) (by show w.heap.size ≤ w.heap.size + 1 + 1 + 1; omega) _).setCell (p := ⟨w.heap.size + 1 + 1 + 1 + 1, 0, none⟩) (by show w.heap.size ≤ w.heap.size + 1 + 1 + 1 + 1; omega) _
  · have hbW : Below W.heap.size W (w4.alloc (.cells #[.int .i32 cl.g, .int .i64 cl.a, .bool true, .int .i64 cl.m] 56)) := Below.later HB4.out (below1 w4 _) HB4.out.size
    rw [← HQP.out]
    refine ⟨(Keeps.of_below hbW : Keeps (fun _ => False) W _).from (fun k hk => hk.elim), trivial, HG.out.below hbW, (hbW.block _ (block_lt HI.out.1)).trans HI.out.1, (hbW.block _ (block_lt HI.out.2.1)).trans HI.out.2.1, (hbW.block _ (block_lt HI.out.2.2.1)).trans HI.out.2.2.1, (hbW.block _ (block_lt HI.out.2.2.2)).trans HI.out.2.2.2, ⟨(hbW.block _ (block_lt HAr.out.1)).trans HAr.out.1, (hbW.block _ (block_lt HAr.out.2.1)).trans HAr.out.2.1, (hbW.block _ (block_lt HAr.out.2.2)).trans HAr.out.2.2⟩, Below.later HBB.out hbW HBB.out.size, HFN.out hgd⟩
 case done =>
  rintro E ys W hE ⟨hS, hS2⟩ ⟨hg, i0, i2, i3, i4, hAr, hB, hfd⟩ hK
  have HON := Lib.hid (show openN D p by_ = none by unfold openN; unfold arI at hS2; rw [hS] at hS2; rw [← hS2]; exact hfd)
  clear hg i0 hAr hfd hS hS2
  have hE' : wa.heap.size + 1 + 1 + 1 ≤ E := by simpa using hE
  have HB7 := Lib.hid hB
  have HK := Lib.hid hK
  have HZ : Hid (W.drew.heap[w.heap.size + 1 + 1]? = some (.cells #[.int .i64 0, .int .i64 0] 36 (0, 0))) := i2
  have HST : Hid (W.drew.heap[w.heap.size + 1 + 1 + 1]? = some (.cells #[.int .i64 0, .int .i64 0] 36 (0, 0)) ∧ W.drew.heap[w.heap.size + 1 + 1 + 1 + 1]? = some (.cells #[.bool false] 4 (0, 0)) ∧ W.drew.heap[w.heap.size + 1 + 1]? = some (.cells #[.int .i64 0, .int .i64 0] 36 (0, 0))) := ⟨i3, i4, i2⟩
  obtain ⟨q0, q1, _⟩ := row2 i3
  have c0 := cell_row i4 0
  obtain ⟨r0, r1, f0, f1⟩ := row2 i2
  clear hB hK i2 i3 i4
  gi_wp2
  refine wpIn_wide.2 ?_
  refine wp_region_noPanic ?_
  refine wp_region_k (S := fun W' : World => W'.heap[w.heap.size + 1 + 1 + 1]? = some (.cells #[.int .i64 0, .int .i64 0] 36 (0, 0)) ∧ W'.heap[w.heap.size + 1 + 1 + 1 + 1]? = some (.cells #[.bool false] 4 (0, 0)) ∧ W'.heap[w.heap.size + 1 + 1]? = some (.cells #[.int .i64 0, .int .i64 0] 36 (0, 0))) 2 (by kernel_rfl) (HST.out) (fun hHeld => ?_)
  refine kTK (v := ?_) 0 [] hHeld ?y1 ?_
  case y1 => (intro W hSw; obtain ⟨q0, q1, _⟩ := row2 hSw.1; have c0 := cell_row hSw.2.1 0; obtain ⟨r0, r1, f0, f1⟩ := row2 hSw.2.2; go_simp; try with_reducible rfl)
  try refine kNK ?_
  refine wpAnyK_ready (rs := [1, 2]) (by kernel_rfl) (by simp) ?_
  refine AllReadyK.cons rfl (fun KQ hKQ => ?_) (AllReadyK.free rfl (by kernel_rfl) (fun KQ hKQ => ?_) AllReadyK.nil)
  focus
   go_simp
   refine hKQ.out _ _ (hHeld) ?_
   clear hHeld hKQ KQ
   intro hHeld
   try refine kNK ?_
   refine kPK 2 fun KQ hKQ => ?_
   go_simp
   refine hKQ.out _ _ ?_
   clear hKQ KQ
   try refine kNK ?_
   refine kBK 3 ?_
   try refine kNK ?_
   refine wpAnyK_done (by kernel_rfl) ?_ _
   refine NoPanic.normal ?_
  rotate_left 1
  focus
   go_simp
   refine hKQ.out _ _ ?_
   clear hKQ KQ
   try refine kNK ?_
   refine kPK 1 fun KQ hKQ => ?_
   go_simp
   refine hKQ.out _ _ ?_
   clear hKQ KQ
   try refine kNK ?_
   refine kBK 3 ?_
   try refine kNK ?_
   refine wpAnyK_done (by kernel_rfl) ?_ _
   refine NoPanic.normal ?_
  rotate_left 1
  all_goals
   gi_wp2
   rw [Exit.noGoto_ret]
   have hw7 : ((W.setCell ⟨w.heap.size + 1 + 1, 0, none⟩ (.int .i64 0)).setCell ⟨w.heap.size + 1 + 1, 1, none⟩ (.int .i64 0)).drew.heap[w.heap.size + 1 + 1]? = some (.cells #[.int .i64 0, .int .i64 0] 36 (0, 0)) := set_two (W := W) HZ.out _ _
   have hK7 : ((W.setCell ⟨w.heap.size + 1 + 1, 0, none⟩ (.int .i64 0)).setCell ⟨w.heap.size + 1 + 1, 1, none⟩ (.int .i64 0)).drew.heap[E]? = some (.deferred (some [])) := (heap_setCell_other _ _ _ _ (by show E ≠ w.heap.size + 1 + 1; omega)).trans ((heap_setCell_other _ _ _ _ (by show E ≠ w.heap.size + 1 + 1; omega)).trans HK.out)
   have hB8 : Below w.heap.size w ((W.setCell ⟨w.heap.size + 1 + 1, 0, none⟩ (.int .i64 0)).setCell ⟨w.heap.size + 1 + 1, 1, none⟩ (.int .i64 0)).drew := ((HB7.out.setCell (p := ⟨w.heap.size + 1 + 1, 0, none⟩) (by show w.heap.size ≤ w.heap.size + 1 + 1; omega) _).setCell (p := ⟨w.heap.size + 1 + 1, 1, none⟩) (by show w.heap.size ≤ w.heap.size + 1 + 1; omega) _).drew
   generalize ((W.setCell ⟨w.heap.size + 1 + 1, 0, none⟩ (.int .i64 0)).setCell ⟨w.heap.size + 1 + 1, 1, none⟩ (.int .i64 0)).drew = WZ at *
   have hw8 : (WZ.putObj E (.deferred none)).heap[w.heap.size + 1 + 1]? = some (.cells #[.int .i64 0, .int .i64 0] 36 (0, 0)) := (World.putObj_heap_other (by omega)).trans hw7
   obtain ⟨z0, z1, _⟩ := row2 hw8
   have hh := grownBy_putObj' WZ E (.deferred none)
   refine ⟨by simp, .inl ⟨_, _, rfl, run_takeDeferred hK7, ?_⟩⟩
   exact ⟨.tuple #[.agg #[.int .i64 0, .int .i64 0], .bool false], by simp [results, Tryz.results120, go_sem, z0, z1], by rw [HON.out], hB8.grown hh hB8.size (fun k e => by cases e; omega)⟩
 case stop =>
  rintro E c pre W hE ⟨hpre, hpre2⟩ ⟨rfl, q, hq, i2, i3, i4, hB⟩ hK
  have HON := Lib.hid (show openN D p by_ = some q from arI_find hpre2 hpre hq)
  clear hpre hpre2 hq
  have hE' : wa.heap.size + 1 + 1 + 1 ≤ E := by simpa using hE
  obtain ⟨qr, hqr⟩ : ∃ qr, qr = q / D.C := ⟨_, rfl⟩
  obtain ⟨qc, hqc⟩ : ∃ qc, qc = q % D.C := ⟨_, rfl⟩
  rw [← hqr, ← hqc] at i3
  have HQ := Lib.hid (And.intro hqr hqc)
  clear hqr hqc
  have HB7 := Lib.hid hB
  have HK := Lib.hid hK
  have HZ : Hid (W.drew.heap[w.heap.size + 1 + 1]? = some (.cells #[.int .i64 0, .int .i64 0] 36 (0, 0))) := i2
  have HST : Hid (W.drew.heap[w.heap.size + 1 + 1 + 1]? = some (.cells #[.int .i64 qr, .int .i64 qc] 36 (0, 0)) ∧ W.drew.heap[w.heap.size + 1 + 1 + 1 + 1]? = some (.cells #[.bool true] 4 (0, 0)) ∧ W.drew.heap[w.heap.size + 1 + 1]? = some (.cells #[.int .i64 0, .int .i64 0] 36 (0, 0))) := ⟨i3, i4, i2⟩
  obtain ⟨q0, q1, _⟩ := row2 i3
  have c0 := cell_row i4 0
  obtain ⟨r0, r1, f0, f1⟩ := row2 i2
  clear hB hK i2 i3 i4
  gi_wp2
  refine wpIn_wide.2 ?_
  refine wp_region_noPanic ?_
  refine wp_region_k (S := fun W' : World => W'.heap[w.heap.size + 1 + 1 + 1]? = some (.cells #[.int .i64 qr, .int .i64 qc] 36 (0, 0)) ∧ W'.heap[w.heap.size + 1 + 1 + 1 + 1]? = some (.cells #[.bool true] 4 (0, 0)) ∧ W'.heap[w.heap.size + 1 + 1]? = some (.cells #[.int .i64 0, .int .i64 0] 36 (0, 0))) 2 (by kernel_rfl) (HST.out) (fun hHeld => ?_)
  refine kTK (v := ?_) 0 [] hHeld ?y1 ?_
  case y1 => (intro W hSw; obtain ⟨q0, q1, _⟩ := row2 hSw.1; have c0 := cell_row hSw.2.1 0; obtain ⟨r0, r1, f0, f1⟩ := row2 hSw.2.2; go_simp; try with_reducible rfl)
  try refine kNK ?_
  refine wpAnyK_ready (rs := [1, 2]) (by kernel_rfl) (by simp) ?_
  refine AllReadyK.cons rfl (fun KQ hKQ => ?_) (AllReadyK.free rfl (by kernel_rfl) (fun KQ hKQ => ?_) AllReadyK.nil)
  focus
   go_simp
   refine hKQ.out _ _ (hHeld) ?_
   clear hHeld hKQ KQ
   intro hHeld
   try refine kNK ?_
   refine kPK 2 fun KQ hKQ => ?_
   go_simp
   refine hKQ.out _ _ ?_
   clear hKQ KQ
   try refine kNK ?_
   refine kBK 3 ?_
   try refine kNK ?_
   refine wpAnyK_done (by kernel_rfl) ?_ _
   refine NoPanic.normal ?_
  rotate_left 1
  focus
   go_simp
   refine hKQ.out _ _ ?_
   clear hKQ KQ
   try refine kNK ?_
   refine kPK 1 fun KQ hKQ => ?_
   go_simp
   refine hKQ.out _ _ ?_
   clear hKQ KQ
   try refine kNK ?_
   refine kBK 3 ?_
   try refine kNK ?_
   refine wpAnyK_done (by kernel_rfl) ?_ _
   refine NoPanic.normal ?_
  rotate_left 1
  all_goals
   gi_wp2
   rw [Exit.noGoto_ret]
   have hw7 : ((W.setCell ⟨w.heap.size + 1 + 1, 0, none⟩ (.int .i64 qr)).setCell ⟨w.heap.size + 1 + 1, 1, none⟩ (.int .i64 qc)).drew.heap[w.heap.size + 1 + 1]? = some (.cells #[.int .i64 qr, .int .i64 qc] 36 (0, 0)) := set_two (W := W) HZ.out _ _
   have hK7 : ((W.setCell ⟨w.heap.size + 1 + 1, 0, none⟩ (.int .i64 qr)).setCell ⟨w.heap.size + 1 + 1, 1, none⟩ (.int .i64 qc)).drew.heap[E]? = some (.deferred (some [])) := (heap_setCell_other _ _ _ _ (by show E ≠ w.heap.size + 1 + 1; omega)).trans ((heap_setCell_other _ _ _ _ (by show E ≠ w.heap.size + 1 + 1; omega)).trans HK.out)
   have hB8 : Below w.heap.size w ((W.setCell ⟨w.heap.size + 1 + 1, 0, none⟩ (.int .i64 qr)).setCell ⟨w.heap.size + 1 + 1, 1, none⟩ (.int .i64 qc)).drew := ((HB7.out.setCell (p := ⟨w.heap.size + 1 + 1, 0, none⟩) (by show w.heap.size ≤ w.heap.size + 1 + 1; omega) _).setCell (p := ⟨w.heap.size + 1 + 1, 1, none⟩) (by show w.heap.size ≤ w.heap.size + 1 + 1; omega) _).drew
   generalize ((W.setCell ⟨w.heap.size + 1 + 1, 0, none⟩ (.int .i64 qr)).setCell ⟨w.heap.size + 1 + 1, 1, none⟩ (.int .i64 qc)).drew = WZ at *
   have hw8 : (WZ.putObj E (.deferred none)).heap[w.heap.size + 1 + 1]? = some (.cells #[.int .i64 qr, .int .i64 qc] 36 (0, 0)) := (World.putObj_heap_other (by omega)).trans hw7
   obtain ⟨z0, z1, _⟩ := row2 hw8
   have hh := grownBy_putObj' WZ E (.deferred none)
   refine ⟨by simp, .inl ⟨_, _, rfl, run_takeDeferred hK7, ?_⟩⟩
   exact ⟨.tuple #[.agg #[.int .i64 qr, .int .i64 qc], .bool true], by simp [results, Tryz.results120, go_sem, z0, z1], by rw [HON.out, HQ.out.1, HQ.out.2], hB8.grown hh hB8.size (fun k e => by cases e; omega)⟩
end
section
attribute [local go_sem] alloc_drewN setCell_drewN World.cell?_alloc_some frozen_alloc_some size_f0 size_f1
def openV (D : Vz.Gd) (o : Option Nat) : Value := match o with
 | none => .tuple #[.agg #[.int .i64 0, .int .i64 0], .bool false]
 | some q => .tuple #[.agg #[.int .i64 ((q / D.C : Nat) : Int), .int .i64 ((q % D.C : Nat) : Int)], .bool true]
theorem open_ok (gp : Nat) (F : Nat → Prop) (D : Vz.Gd) (p : Vz.Ps) (by_ : Int) (hby : -1 ≤ by_ ∧ by_ ≤ 1) (w : World) (h : Grid w gp F D) :
 Calls Tryz.prog 120 #[.pointer (some ⟨gp, 0, none⟩), .agg #[.int .i64 p.row, .int .i64 p.col], .int .i64 by_] w fun e w' => e = .returned (openV D (openN D p by_)) ∧ Below w.heap.size w w' :=
 callsIn_wide.1 ((open_in 3 (Nat.le_refl _) gp F D p by_ hby w h).mono fun e w' h => ⟨by rw [h.1]; unfold openV; cases openN D p by_ <;> rfl, h.2⟩)
def openP (D : Vz.Gd) (o : Option Nat) : Vz.Ps := match o with
 | none => ⟨0, 0⟩
 | some q => ⟨((q / D.C : Nat) : Int), ((q % D.C : Nat) : Int)⟩
theorem openV_eq (D : Vz.Gd) (o : Option Nat) : openV D o = .tuple #[.agg #[.int .i64 (openP D o).row, .int .i64 (openP D o).col], .bool o.isSome] := by cases o <;> rfl
theorem free_ok (gp : Nat) (F : Nat → Prop) (D : Vz.Gd) (p : Vz.Ps) (w : World) (h : Grid w gp F D) :
 Calls Tryz.prog 100 #[.pointer (some ⟨gp, 0, none⟩), .agg #[.int .i64 p.row, .int .i64 p.col]] w fun e w' => e = .returned (.tuple #[.agg #[.int .i64 (openP D (openN D p 1)).row, .int .i64 (openP D (openN D p 1)).col], .bool (openN D p 1).isSome]) ∧ Below w.heap.size w w' := by
 have HB0 : Hid (Below w.heap.size w ((w.alloc (.cells #[.int .i64 p.row, .int .i64 p.col] 36)).alloc (.cells #[.int .i64 0, .int .i64 0] 36))) := Grows.below (((Grows.refl w).alloc _).alloc _)
 obtain ⟨hn0, hn1, _⟩ := box2 (Below.refl ((w.alloc (.cells #[.int .i64 p.row, .int .i64 p.col] 36)).alloc (.cells #[.int .i64 0, .int .i64 0] 36)).heap.size ((w.alloc (.cells #[.int .i64 p.row, .int .i64 p.col] 36)).alloc (.cells #[.int .i64 0, .int .i64 0] 36)))
 have HO := Lib.hid (open_ok gp F D p 1 (by decide) _ (h.below HB0.out))
 have HN1 := Lib.hid hn1
 obtain ⟨p0, p1, _⟩ := row2 hn0
 clear h hn0 hn1
 rw [openV_eq] at HO
 generalize openP D (openN D p 1) = q at *
 generalize (openN D p 1).isSome = b at *
 go_enter Tryz.func100, Tryz.ntmps100
 go_wp2_with (go_at_call 120; refine HO.out.mono ?_; rintro e w2 ⟨rfl, hb2⟩; have HX := Lib.hid ((hb2.block _ (block_lt HN1.out)).trans HN1.out); have HB2 := Lib.hid (Below.later HB0.out hb2 HB0.out.size); clear hb2; obtain ⟨x0, x1, f0, f1⟩ := row2 HX.out)
 obtain ⟨r0, r1, _⟩ := row2 (set_two HX.out (.int .i64 q.row) (.int .i64 q.col))
 refine bodyPost_ret (v := .tuple #[.agg #[.int .i64 q.row, .int .i64 q.col], .bool b]) (by simp [results, Tryz.results100, go_sem, r0, r1]) rfl ⟨rfl, (HB2.out.setCell (p := ⟨w.heap.size + 1, 0, none⟩) (by show w.heap.size ≤ w.heap.size + 1; omega) _).setCell (p := ⟨w.heap.size + 1, 1, none⟩) (by show w.heap.size ≤ w.heap.size + 1; omega) _⟩
theorem last_ok (gp : Nat) (F : Nat → Prop) (D : Vz.Gd) (p : Vz.Ps) (w : World) (h : Grid w gp F D) :
 Calls Tryz.prog 101 #[.pointer (some ⟨gp, 0, none⟩), .agg #[.int .i64 p.row, .int .i64 p.col]] w fun e w' => e = .returned (.tuple #[.agg #[.int .i64 (openP D (openN D p (-1))).row, .int .i64 (openP D (openN D p (-1))).col], .bool (openN D p (-1)).isSome]) ∧ Below w.heap.size w w' := by
 have HB0 : Hid (Below w.heap.size w ((w.alloc (.cells #[.int .i64 p.row, .int .i64 p.col] 36)).alloc (.cells #[.int .i64 0, .int .i64 0] 36))) := Grows.below (((Grows.refl w).alloc _).alloc _)
 obtain ⟨hn0, hn1, _⟩ := box2 (Below.refl ((w.alloc (.cells #[.int .i64 p.row, .int .i64 p.col] 36)).alloc (.cells #[.int .i64 0, .int .i64 0] 36)).heap.size ((w.alloc (.cells #[.int .i64 p.row, .int .i64 p.col] 36)).alloc (.cells #[.int .i64 0, .int .i64 0] 36)))
 have HO := Lib.hid (open_ok gp F D p (-1) (by decide) _ (h.below HB0.out))
 have HN1 := Lib.hid hn1
 obtain ⟨p0, p1, _⟩ := row2 hn0
 clear h hn0 hn1
 rw [openV_eq] at HO
 generalize openP D (openN D p (-1)) = q at *
 generalize (openN D p (-1)).isSome = b at *
 go_enter Tryz.func101, Tryz.ntmps101
 go_wp2_with (go_at_call 120; refine HO.out.mono ?_; rintro e w2 ⟨rfl, hb2⟩; have HX := Lib.hid ((hb2.block _ (block_lt HN1.out)).trans HN1.out); have HB2 := Lib.hid (Below.later HB0.out hb2 HB0.out.size); clear hb2; obtain ⟨x0, x1, f0, f1⟩ := row2 HX.out)
 obtain ⟨r0, r1, _⟩ := row2 (set_two HX.out (.int .i64 q.row) (.int .i64 q.col))
 refine bodyPost_ret (v := .tuple #[.agg #[.int .i64 q.row, .int .i64 q.col], .bool b]) (by simp [results, Tryz.results101, go_sem, r0, r1]) rfl ⟨rfl, (HB2.out.setCell (p := ⟨w.heap.size + 1, 0, none⟩) (by show w.heap.size ≤ w.heap.size + 1; omega) _).setCell (p := ⟨w.heap.size + 1, 1, none⟩) (by show w.heap.size ≤ w.heap.size + 1; omega) _⟩
theorem roundI_in {R C : Nat} {f : Nat} {by_ : Int} {l : List Nat} {q : Nat} {φ : Nat → Bool} (hm : 0 < R * C) (h : ((List.range (R * C)).map (Vz.roundI (R * C) f by_)).find? φ = some q) : q < R * C ∧ φ q = true := by
 have h1 := List.mem_of_find?_eq_some h
 obtain ⟨i, _, rfl⟩ := List.mem_map.1 h1
 exact ⟨Vz.roundI_lt _ _ _ _ hm, List.find?_some h⟩
theorem openN_some {D : Vz.Gd} {p : Vz.Ps} {by_ : Int} {q : Nat} (hm : D.may) (h : openN D p by_ = some q) : q < D.R * D.C ∧ freeN D q = true := by
 obtain ⟨m1, m2, m3, m4⟩ := hm
 exact roundI_in (l := []) (Nat.mul_pos m1 m3) h
theorem openP_in (D : Vz.Gd) (p : Vz.Ps) (by_ : Int) (hm : D.may) : (openP D (openN D p by_)).inS D.R D.C := by
 obtain ⟨m1, m2, m3, m4⟩ := hm
 cases ho : openN D p by_ with
 | none => exact ⟨Int.le_refl _, by show (0 : Int) < (D.R : Int); omega, Int.le_refl _, by show (0 : Int) < (D.C : Int); omega⟩
 | some q =>
   obtain ⟨h1, h2⟩ := openN_some ⟨m1, m2, m3, m4⟩ ho
   obtain ⟨h3, h4⟩ := place_of q D.R D.C m3 h1
   exact ⟨Int.natCast_nonneg _, by show ((q / D.C : Nat) : Int) < _; omega, Int.natCast_nonneg _, by show ((q % D.C : Nat) : Int) < _; omega⟩
end
end Go.Proofs.YtncgigapgklhcaaGreatDoor
