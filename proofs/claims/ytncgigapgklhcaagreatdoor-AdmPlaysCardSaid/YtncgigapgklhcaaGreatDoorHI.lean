import Derived.Test.YtncgigapgklhcaaGreatDoorHH
import Derived.Test.YtncgigapgklhcaaGreatDoorHA
import Derived.Test.YtncgigapgklhcaaGreatDoorHE
import Derived.ScopeJumps
import Derived.WalkMore

set_option maxRecDepth 100000
set_option maxHeartbeats 16000000
namespace Go.Proofs.YtncgigapgklhcaaGreatDoor
open Go.RowKit
set_option linter.unusedSimpArgs false
set_option linter.unusedVariables false
/- Walks: shift.minus, shift.Lines. -/
section
attribute [local go_sem] alloc_drewN setCell_drewN World.cell?_alloc_some frozen_alloc_some size_f0 size_f1
attribute [local go_sem 3000] run_min_z run_max_z
theorem cutI_in (n : Int) : -510 ≤ Vz.cutI n ∧ Vz.cutI n ≤ 510 := by unfold Vz.cutI; omega
theorem minus_any (n : Int) (w : World) : Calls Tryz.prog 147 #[.int .i64 n] w fun e w' => e = .returned (.int .i64 (-(Vz.cutI n))) ∧ w' = w := by
 have hc := cutI_in n
 have hw : IntKind.i64.wrap (-(maxZ (-510) (minZ n 510))) = -(Vz.cutI n) := wrap_in (by show -9223372036854775808 ≤ -(Vz.cutI n); omega) (by show -(Vz.cutI n) < 9223372036854775808; omega)
 go_enter Tryz.func147, Tryz.ntmps147
 go_wp2_with fail
 go_ret
 exact ⟨rfl, rfl⟩
def linesD (D : Vz.Gd) (row : Nat) (n : Int) (x : Vz.Cl) (gd : Bool) : Vz.Gd := if gd = true ∧ 0 < guardN D row (D.R * D.C) then D else D.roll row (D.R - 1) (-(Vz.cutI n)) x
theorem lines_ok (gp : Nat) (F : Nat → Prop) (D : Vz.Gd) (row : Nat) (n : Int) (x : Vz.Cl) (gd : Bool) (w : World) (h : Grid w gp F D) (hr : row < D.R) :
 Calls Tryz.prog 134 #[.pointer (some ⟨gp, 0, none⟩), .int .i64 row, .int .i64 n, .agg #[.int .i32 x.g, .int .i64 x.a, .bool x.gd, .int .i64 x.m], .bool gd] w fun e w' => e = .returned (.int .i64 0) ∧ GridTo w w' gp F (linesD D row n x gd) := by
 obtain ⟨m1, m2, m3, m4⟩ := h.may
 have HB : Hid (Below w.heap.size w (w.alloc (.cells (cellB x) 56))) := below1 _ _
 have HX0 := Lib.hid (heap_alloc_new w (.cells (cellB x) 56))
 have HGU := Lib.hid (guarded_any gp F D row _ (h.below HB.out) ⟨by omega, by omega⟩)
 have H := Lib.hid h
 have hcut := cutI_in n
 have HK : Hid (row ≤ D.R - 1 ∧ D.R - 1 < D.R ∧ (-100000 ≤ -(Vz.cutI n) ∧ -(Vz.cutI n) ≤ 100000)) := ⟨by omega, by omega, by omega, by omega⟩
 have hw : IntKind.i64.wrap ((D.R : Int) - 1) = ((D.R - 1 : Nat) : Int) := by rw [wrap_in (by omega) (by omega)]; omega
 have HM := Lib.hid (minus_any n)
 have HL : Hid (linesD D row n x gd = if gd = true ∧ 0 < guardN D row (D.R * D.C) then D else D.roll row (D.R - 1) (-(Vz.cutI n)) x) := rfl
 rw [HL.out]
 clear h hr hcut HL
 generalize hk : guardN D row (D.R * D.C) = k at *
 generalize hq : D.R - 1 = q at *
 generalize hc : -(Vz.cutI n) = c at *
 clear hk hq hc
 unfold cellB at *
 by_cases hg : gd = true ∧ 0 < k
 · obtain ⟨rfl, h0⟩ := hg
   rw [if_pos ⟨rfl, h0⟩]
   have hd : decide (0 < k) = true := decide_eq_true h0
   go_enter Tryz.func134, Tryz.ntmps134
   go_wp2_with (go_at_call 146; refine HGU.out.mono ?_; rintro e w1 ⟨rfl, hb1⟩; have HB1 := Lib.hid (Below.later HB.out hb1 HB.out.size); clear hb1)
   go_ret
   exact ⟨rfl, (GridTo.refl H.out).later HB1.out⟩
 · rw [if_neg hg]
   have hd : gd = true → k = 0 := fun e => by
    rcases Nat.eq_zero_or_pos k with h0 | h0
    · exact h0
    · exact absurd ⟨e, h0⟩ hg
   have HX1 : Hid (∀ W, Below (w.heap.size + 1) (w.alloc (.cells #[.int .i32 x.g, .int .i64 x.a, .bool x.gd, .int .i64 x.m] 56)) W → W.heap[w.heap.size]? = some (.cells #[.int .i32 x.g, .int .i64 x.a, .bool x.gd, .int .i64 x.m] 56 (0, 0))) := fun W hb => (hb.block _ (by omega)).trans HX0.out
   clear hg
   cases gd
   all_goals (
    go_enter Tryz.func134, Tryz.ntmps134
    try obtain rfl := hd rfl
    clear hd
    go_upto_region 4 with (go_at_call 146; refine HGU.out.mono ?_; rintro e w1 ⟨rfl, hb1⟩; have HB1 := Lib.hid hb1; clear hb1)
    have HD1 : Hid (Below (w.heap.size + 1) (w.alloc (.cells #[.int .i32 x.g, .int .i64 x.a, .bool x.gd, .int .i64 x.m] 56)) w1.drew) := (HB1.out.mono (by simp)).drew
    have HBB : Hid (∀ W, Below (w.heap.size + 1) (w.alloc (.cells #[.int .i32 x.g, .int .i64 x.a, .bool x.gd, .int .i64 x.m] 56)) W → Below w.heap.size w W) := fun W hb => (below1 w _).trans (hb.mono (Nat.le_succ _))
    refine wp_region_noPanic ?_
    refine wp_region_k (S := fun W' : World => Below (w.heap.size + 1) (w.alloc (.cells #[.int .i32 x.g, .int .i64 x.a, .bool x.gd, .int .i64 x.m] 56)) W') 9 (by kernel_rfl) (HD1.out) (fun hHeld => ?_)
    refine kSK 0 hHeld ?_
    refine kSK 1 hHeld ?_
    refine kSK 2 hHeld ?_
    refine kSK 6 hHeld ?_
    refine kTK (v := ?_) 8 [] hHeld ?y5 ?_
    case y5 => (intro W hSw; obtain ⟨q0, q1, q2, q3⟩ := cell4 (HX1.out _ hSw); go_simp; try with_reducible rfl)
    try refine kNK ?_
    refine kOK 3 fun KQ hKQ => ?_
    go_simp
    go_at_call 60
    refine (gsize_ok gp F D _ (H.out.below (HBB.out _ hHeld))).mono ?_
    rintro e w2 ⟨rfl, hb2⟩
    have HB2 := Lib.hid (hHeld.trans (hb2.mono (by have := hHeld.size; simpa using this)))
    clear hb2
    go_wp2_with fail
    refine hKQ.out _ _ (HB2.out) ?_
    clear hHeld hKQ KQ
    intro hHeld
    try refine kNK ?_
    refine kSK 4 hHeld ?_
    refine kSK 5 hHeld ?_
    try refine kNK ?_
    refine kOK 7 fun KQ hKQ => ?_
    go_simp
    go_at_call 147
    refine (HM.out _).mono ?_
    rintro e w3 ⟨rfl, rfl⟩
    go_wp2_with fail
    refine hKQ.out _ _ (hHeld) ?_
    clear hHeld hKQ KQ
    intro hHeld
    try refine kNK ?_
    refine kPK 9 fun KQ hKQ => ?_
    go_simp
    go_at_call 144
    refine (groll_ok gp F D row q c x _ (H.out.below (HBB.out _ hHeld)) HK.out.1 HK.out.2.1 HK.out.2.2).mono ?_
    rintro e w4 ⟨rfl, hG, hK⟩
    have HG : Hid (GridTo w w4 gp F (D.roll row q c x)) := GridTo.after (HBB.out _ hHeld) ⟨hG, hK⟩
    clear hG hK
    go_wp2_with fail
    refine hKQ.out _ _ ?_
    clear hKQ KQ
    try refine kNK ?_
    refine kBK 10 ?_
    try refine kNK ?_
    refine wpAnyK_done (by kernel_rfl) ?_ _
    refine NoPanic.normal ?_
    go_wp2_with fail
    go_ret
    exact ⟨rfl, HG.out⟩)
end
end Go.Proofs.YtncgigapgklhcaaGreatDoor
/- Walks: shift.Field, shift.Chars. -/
namespace Go
def Exit.jump2 (l0 l1 : Nat) (J0 J1 : Act → World → Prop) (Q : Exit → Act → World → Prop) : Exit → Act → World → Prop
 | .goto l, a, w => (l = l0 ∧ J0 a w) ∨ (l = l1 ∧ J1 a w)
 | e, a, w => Q e a w
theorem wp_scope_jumps2 {P : Program} {a : Act} {w : World} {Q : Exit → Act → World → Prop} {c R0 R1 : Code} (l0 l1 : Nat) (J0 J1 : Act → World → Prop) (μ0 μ1 : Act → World → Nat) (h0 : findLabel c l0 = some R0) (h1 : findLabel c l1 = some R1)
 (first : c.wp P (Exit.jump2 l0 l1 J0 J1 Q) a w)
 (pass0 : ∀ a w, J0 a w → R0.wp P (Exit.jump2 l0 l1 (fun a' w' => J0 a' w' ∧ μ0 a' w' < μ0 a w) (fun a' w' => J1 a' w' ∧ μ1 a' w' < μ0 a w) Q) a w)
 (pass1 : ∀ a w, J1 a w → R1.wp P (Exit.jump2 l0 l1 (fun a' w' => J0 a' w' ∧ μ0 a' w' < μ1 a w) (fun a' w' => J1 a' w' ∧ μ1 a' w' < μ1 a w) Q) a w) : (Code.scope c).wp P Q a w := by
 intro b k cs
 have g0 : gotoIn l0 (.inScope c :: k) = some (.code R0 :: .inScope c :: k) := by simp [gotoIn, h0]
 have g1 : gotoIn l1 (.inScope c :: k) = some (.code R1 :: .inScope c :: k) := by simp [gotoIn, h1]
 have key : ∀ n, (∀ a w, μ0 a w = n → J0 a w → ∃ e a' w', Q e a' w' ∧ Arrives P (lone (b.at a (.code R0 :: .inScope c :: k)) cs w) b k cs e a' w') ∧ (∀ a w, μ1 a w = n → J1 a w → ∃ e a' w', Q e a' w' ∧ Arrives P (lone (b.at a (.code R1 :: .inScope c :: k)) cs w) b k cs e a' w') := by
  intro n
  induction n using Nat.strongRecOn with
  | _ n ih =>
    constructor
    · intro a w hn hJ
      obtain ⟨e, a₁, w₁, hq, harr⟩ := pass0 a w hJ b (.inScope c :: k) cs
      cases e with
      | normal => exact ⟨.normal, a₁, w₁, hq, Steps.trans harr (.one step_inScope)⟩
      | exit id => exact ⟨.exit id, a₁, w₁, hq, fun k' hk => harr k' (by simp [exitTo, hk])⟩
      | goto l' =>
        rcases hq with ⟨rfl, hJ', hlt⟩ | ⟨rfl, hJ', hlt⟩
        · obtain ⟨e₂, a₂, w₂, hq₂, harr₂⟩ := (ih _ (by omega)).1 a₁ w₁ rfl hJ'
          exact ⟨e₂, a₂, w₂, hq₂, .of_steps (harr _ g0) harr₂⟩
        · obtain ⟨e₂, a₂, w₂, hq₂, harr₂⟩ := (ih _ (by omega)).2 a₁ w₁ rfl hJ'
          exact ⟨e₂, a₂, w₂, hq₂, .of_steps (harr _ g1) harr₂⟩
      | ret => exact ⟨_, a₁, w₁, hq, harr⟩
      | panic ch => exact ⟨_, a₁, w₁, hq, harr⟩
      | outgrown => exact ⟨_, a₁, w₁, hq, harr⟩
    · intro a w hn hJ
      obtain ⟨e, a₁, w₁, hq, harr⟩ := pass1 a w hJ b (.inScope c :: k) cs
      cases e with
      | normal => exact ⟨.normal, a₁, w₁, hq, Steps.trans harr (.one step_inScope)⟩
      | exit id => exact ⟨.exit id, a₁, w₁, hq, fun k' hk => harr k' (by simp [exitTo, hk])⟩
      | goto l' =>
        rcases hq with ⟨rfl, hJ', hlt⟩ | ⟨rfl, hJ', hlt⟩
        · obtain ⟨e₂, a₂, w₂, hq₂, harr₂⟩ := (ih _ (by omega)).1 a₁ w₁ rfl hJ'
          exact ⟨e₂, a₂, w₂, hq₂, .of_steps (harr _ g0) harr₂⟩
        · obtain ⟨e₂, a₂, w₂, hq₂, harr₂⟩ := (ih _ (by omega)).2 a₁ w₁ rfl hJ'
          exact ⟨e₂, a₂, w₂, hq₂, .of_steps (harr _ g1) harr₂⟩
      | ret => exact ⟨_, a₁, w₁, hq, harr⟩
      | panic ch => exact ⟨_, a₁, w₁, hq, harr⟩
      | outgrown => exact ⟨_, a₁, w₁, hq, harr⟩
 obtain ⟨e, a₁, w₁, hq, harr⟩ := first b (.inScope c :: k) cs
 cases e with
 | normal => exact ⟨.normal, a₁, w₁, hq, .head step_scope (Steps.trans harr (.one step_inScope))⟩
 | exit id => exact ⟨.exit id, a₁, w₁, hq, fun k' hk => .head step_scope (harr k' (by simp [exitTo, hk]))⟩
 | goto l' =>
   rcases hq with ⟨rfl, hJ'⟩ | ⟨rfl, hJ'⟩
   · obtain ⟨e₂, a₂, w₂, hq₂, harr₂⟩ := (key _).1 a₁ w₁ rfl hJ'
     exact ⟨e₂, a₂, w₂, hq₂, .of_steps (.head step_scope (harr _ g0)) harr₂⟩
   · obtain ⟨e₂, a₂, w₂, hq₂, harr₂⟩ := (key _).2 a₁ w₁ rfl hJ'
     exact ⟨e₂, a₂, w₂, hq₂, .of_steps (.head step_scope (harr _ g1)) harr₂⟩
 | ret => exact ⟨_, a₁, w₁, hq, .of_steps (.one step_scope) harr⟩
 | panic ch => exact ⟨_, a₁, w₁, hq, .of_steps (.one step_scope) harr⟩
 | outgrown => exact ⟨_, a₁, w₁, hq, .of_steps (.one step_scope) harr⟩
end Go
namespace Go.Proofs.YtncgigapgklhcaaGreatDoor
open Go.RowKit
set_option linter.unusedSimpArgs false
set_option linter.unusedVariables false
attribute [local go_sem] alloc_drewN setCell_drewN World.cell?_alloc_some frozen_alloc_some size_f0 size_f1
attribute [local go_sem 3000] run_min_z run_max_z
def freeAt (D : Vz.Gd) (row col : Int) : Bool := decide (0 ≤ col) && decide (col < D.C) && !(atD D ⟨row, col⟩).gd
theorem free_any (gp b2 b3 : Nat) (F : Nat → Prop) (D : Vz.Gd) (row pc col : Int) (w : World) (h : Grid w gp F D) (hr : 0 ≤ row ∧ row < D.R) (hb2 : w.heap[b2]? = some (.cells #[.pointer (some ⟨gp, 0, none⟩)] 77 (0, 0))) (hb3 : w.heap[b3]? = some (.cells #[.int .i64 row, .int .i64 pc] 36 (0, 0))) :
 Calls Tryz.prog 168 #[.int .i64 col, .pointer (some ⟨b2, 0, none⟩), .pointer (some ⟨b3, 0, none⟩)] w fun e w' => e = .returned (.bool (freeAt D row col)) ∧ Below w.heap.size w w' := by
 have c2 : w.cell? ⟨b2, 0, none⟩ = some (.pointer (some ⟨gp, 0, none⟩)) := cell_row hb2 0
 have c3 : w.cell? ⟨b3, 0, none⟩ = some (.int .i64 row) := cell_row hb3 0
 have H := Lib.hid h
 by_cases hc : 0 ≤ col ∧ col < D.C
 · have HV : Hid (freeAt D row col = !(atD D ⟨row, col⟩).gd) := by
    unfold freeAt Hid
    rw [decide_eq_true hc.1, decide_eq_true hc.2]
    rfl
   have HA := Lib.hid (gat_ok gp F D ⟨row, col⟩ w h ⟨hr.1, hr.2, hc.1, hc.2⟩)
   rw [HV.out]
   clear h hb2 hb3 hr hc HV
   generalize atD D ⟨row, col⟩ = x at *
   cases hx : x.gd
   all_goals (
    go_enter Tryz.func168, Tryz.ntmps168
    go_wp2_with (go_at_call 39; refine HA.out.mono ?_; rintro e w1 ⟨rfl, hb1⟩; have HB1 := Lib.hid hb1; clear hb1)
    go_ret
    exact ⟨rfl, Below.later HB1.out (below1 _ _) HB1.out.size⟩)
 · have HV : Hid (freeAt D row col = false) := by
    unfold freeAt Hid
    by_cases h0 : 0 ≤ col
    · rw [decide_eq_true h0, decide_eq_false (fun h1 => hc ⟨h0, h1⟩)]
      rfl
    · rw [decide_eq_false h0]
      rfl
   have HA := Lib.hid (gat_no gp F D ⟨row, col⟩ w h (fun hin => hc ⟨hin.2.2.1, hin.2.2.2⟩))
   rw [HV.out]
   clear h hb2 hb3 hr hc HV
   go_enter Tryz.func168, Tryz.ntmps168
   go_wp2_with (go_at_call 39; refine HA.out.mono ?_; rintro e w1 ⟨rfl, hb1⟩; have HB1 := Lib.hid hb1; clear hb1)
   go_ret
   exact ⟨rfl, Below.later HB1.out (below1 _ _) HB1.out.size⟩
end Go.Proofs.YtncgigapgklhcaaGreatDoor
namespace Go.Proofs.YtncgigapgklhcaaGreatDoor
open Go.RowKit
set_option linter.unusedSimpArgs false
set_option linter.unusedVariables false
section
attribute [local go_sem] alloc_drewN setCell_drewN World.cell?_alloc_some frozen_alloc_some size_f0 size_f1
attribute [local go_sem 3000] run_min_z run_max_z
def lastN (D : Vz.Gd) (r : Nat) : Nat → Nat → Nat
 | 0, t => t
 | k + 1, t => if freeAt D r ((t : Int) + 1) = true then lastN D r k (t + 1) else t
def lastF (D : Vz.Gd) (r t : Nat) : Nat := lastN D r (D.C - t) t
theorem freeAt_lt {D : Vz.Gd} {r c : Int} (h : freeAt D r c = true) : 0 ≤ c ∧ c < D.C := by
 unfold freeAt at h
 simp only [Bool.and_eq_true, decide_eq_true_iff] at h
 exact ⟨h.1.1, h.1.2⟩
theorem lastF_on {D : Vz.Gd} {r t : Nat} (h : freeAt D r ((t : Int) + 1) = true) : lastF D r (t + 1) = lastF D r t := by
 have := freeAt_lt h
 unfold lastF
 rw [show D.C - t = (D.C - (t + 1)) + 1 by omega]
 conv => rhs; unfold lastN
 rw [if_pos h]
theorem lastF_off {D : Vz.Gd} {r t : Nat} (h : freeAt D r ((t : Int) + 1) = false) : lastF D r t = t := by
 unfold lastF
 cases D.C - t with
 | zero => rfl
 | succ k =>
   unfold lastN
   rw [if_neg (by rw [h]; decide)]
theorem lastN_in (D : Vz.Gd) (r : Nat) : ∀ k t, t < D.C → t ≤ lastN D r k t ∧ lastN D r k t < D.C
 | 0, t, h => ⟨Nat.le_refl _, h⟩
 | k + 1, t, h => by
   unfold lastN
   split
   · rename_i hf
     have := freeAt_lt hf
     have := lastN_in D r k (t + 1) (by omega)
     omega
   · exact ⟨Nat.le_refl _, h⟩
theorem lastF_in (D : Vz.Gd) (r t : Nat) (h : t < D.C) : t ≤ lastF D r t ∧ lastF D r t < D.C := lastN_in D r _ t h
def intAt (a : Act) (i : Nat) : Nat := match a.tmps.getD i undef with | .int _ q => q.toNat | _ => 0
theorem field_ok (gp : Nat) (F : Nat → Prop) (D : Vz.Gd) (row col : Nat) (w : World) (h : Grid w gp F D) (hr : row < D.R) (hc : col < D.C) :
 Calls Tryz.prog 148 #[.pointer (some ⟨gp, 0, none⟩), .agg #[.int .i64 row, .int .i64 col]] w fun e w' => (∃ f : Int, e = .returned (.tuple (if (D.X row col).gd = true then #[.int .i64 0, .int .i64 0, .int .i64 15] else #[.int .i64 f, .int .i64 (lastF D row col), .int .i64 0]))) ∧ Below w.heap.size w w' := by
 obtain ⟨m1, m2, m3, m4⟩ := h.may
 have HB0 : Hid (Below w.heap.size w ((w.alloc (.cells #[.pointer (some ⟨gp, 0, none⟩)] 77)).alloc (.cells #[.int .i64 row, .int .i64 col] 36))) := Grows.below (((Grows.refl w).alloc _).alloc _)
 obtain ⟨x0, x1, _⟩ := box2 (Below.refl ((w.alloc (.cells #[.pointer (some ⟨gp, 0, none⟩)] 77)).alloc (.cells #[.int .i64 row, .int .i64 col] 36)).heap.size _)
 have X0 := Lib.hid x0
 have X1 := Lib.hid x1
 have HAT := Lib.hid (gat_ok gp F D ⟨row, col⟩ _ (h.below HB0.out) ⟨Int.natCast_nonneg _, Int.ofNat_lt.2 hr, Int.natCast_nonneg _, Int.ofNat_lt.2 hc⟩)
 have hxx : atD D ⟨row, col⟩ = D.X row col := rfl
 rw [hxx] at HAT
 have H := Lib.hid h
 have HFR : Hid (∀ W, Below (w.heap.size + 1 + 1) ((w.alloc (.cells #[.pointer (some ⟨gp, 0, none⟩)] 77)).alloc (.cells #[.int .i64 row, .int .i64 col] 36)) W → ∀ c : Int, Calls Tryz.prog 168 #[.int .i64 c, .pointer (some ⟨w.heap.size, 0, none⟩), .pointer (some ⟨w.heap.size + 1, 0, none⟩)] W fun e w' => e = .returned (.bool (freeAt D row c)) ∧ Below W.heap.size W w') := fun W hb c =>
  free_any gp w.heap.size (w.heap.size + 1) F D row col c W (h.below (Below.later HB0.out (by simpa using hb) HB0.out.size)) ⟨by omega, by omega⟩ ((hb.block _ (by omega)).trans X0.out) ((hb.block _ (by omega)).trans X1.out)
 clear h hxx x0 x1
 cases hgd : (D.X row col).gd
 · have HR : Hid (∀ f : Int, Value.tuple (if (false = true) then #[.int .i64 0, .int .i64 0, .int .i64 15] else #[.int .i64 f, .int .i64 (lastF D row col), .int .i64 0]) = .tuple #[.int .i64 f, .int .i64 (lastF D row col), .int .i64 0]) := fun f => by rw [if_neg (by decide)]
   rw [hgd] at HAT
   have HC := Lib.hid hc
   have hc1 : col < 255 := by omega
   generalize D.X row col = x at *
   clear hc hr hgd
   go_enter Tryz.func148, Tryz.ntmps148
   go_wp2
   refine wp_scope_jumps2 0 1 (fun a' w' => ∃ (f t : Nat), (∃ (u0 u1 u2 u3 u7 u9 u10 u11 u12 u13 u14 u15 u16 u17 u18 u19 u20 u21 u22 u23 u24 u25 u26 u27 u28 u29 u30 u31 u32 u33 u34 u35 u36 u37 u38 u39 u40 : Value), a' = { tmps := #[u0, u1, u2, u3, .int .i64 f, .int .i64 t, .int .i64 0, u7, .func (.func 168) #[] #[.pointer (some ⟨w.heap.size, 0, none⟩), .pointer (some ⟨w.heap.size + 1, 0, none⟩)], u9, u10, u11, u12, u13, u14, u15, u16, u17, u18, u19, u20, u21, u22, u23, u24, u25, u26, u27, u28, u29, u30, u31, u32, u33, u34, u35, u36, u37, u38, u39, u40], defers := [] }) ∧ lastF D row t = lastF D row col ∧ col ≤ t ∧ t < D.C ∧ f < D.C ∧ Below (w.heap.size + 1 + 1) ((w.alloc (.cells #[.pointer (some ⟨gp, 0, none⟩)] 77)).alloc (.cells #[.int .i64 row, .int .i64 col] 36)) w') (fun a' w' => ∃ (f t : Nat), (∃ (u0 u1 u2 u3 u7 u9 u10 u11 u12 u13 u14 u15 u16 u17 u18 u19 u20 u21 u22 u23 u24 u25 u26 u27 u28 u29 u30 u31 u32 u33 u34 u35 u36 u37 u38 u39 u40 : Value), a' = { tmps := #[u0, u1, u2, u3, .int .i64 f, .int .i64 t, .int .i64 0, u7, .func (.func 168) #[] #[.pointer (some ⟨w.heap.size, 0, none⟩), .pointer (some ⟨w.heap.size + 1, 0, none⟩)], u9, u10, u11, u12, u13, u14, u15, u16, u17, u18, u19, u20, u21, u22, u23, u24, u25, u26, u27, u28, u29, u30, u31, u32, u33, u34, u35, u36, u37, u38, u39, u40], defers := [] }) ∧ lastF D row t = lastF D row col ∧ col ≤ t ∧ t < D.C ∧ f < D.C ∧ Below (w.heap.size + 1 + 1) ((w.alloc (.cells #[.pointer (some ⟨gp, 0, none⟩)] 77)).alloc (.cells #[.int .i64 row, .int .i64 col] 36)) w') (fun a' _ => D.C + 1 + intAt a' 4) (fun a' _ => D.C - intAt a' 5) rfl rfl ?_ ?_ ?_
   · go_wp2_with (go_at_call 39; refine HAT.out.mono ?_; rintro e w1 ⟨rfl, hb1⟩; have HB1 := Lib.hid hb1; clear hb1)
     have hX1 : (w1.alloc (.cells #[.int .i32 x.g, .int .i64 x.a, .bool false, .int .i64 x.m] 56)).drew.heap[w.heap.size + 1]? = some (.cells #[.int .i64 row, .int .i64 col] 36 (0, 0)) := ((HB1.out.alloc HB1.out.size _).drew.block _ (by simp)).trans X1.out
     have HBx : Hid (Below (w.heap.size + 1 + 1) ((w.alloc (.cells #[.pointer (some ⟨gp, 0, none⟩)] 77)).alloc (.cells #[.int .i64 row, .int .i64 col] 36)) ((w1.alloc (.cells #[.int .i32 x.g, .int .i64 x.a, .bool false, .int .i64 x.m] 56)).drew)) := ((HB1.out.alloc HB1.out.size _).drew.mono (by simp))
     refine wp_region_noPanic ?_
     refine wp_region_k (S := fun W' : World => W'.heap[w.heap.size + 1]? = some (.cells #[.int .i64 row, .int .i64 col] 36 (0, 0))) 999 (by kernel_rfl) (hX1) (fun hHeld => ?_)
     refine kSK 0 hHeld ?_
     refine kHK (v := ?_) 1 hHeld ?y2 ?_
     case y2 => (intro W hSw; obtain ⟨p0, p1, _⟩ := row2 hSw; go_simp; try with_reducible rfl)
     refine kSK 2 hHeld ?_
     refine kHK (v := ?_) 3 hHeld ?y4 ?_
     case y4 => (intro W hSw; obtain ⟨p0, p1, _⟩ := row2 hSw; go_simp; try with_reducible rfl)
     refine kSK 4 hHeld ?_
     try refine kNK ?_
     refine kSK 5 hHeld ?_
     try refine kNK ?_
     refine wpAnyK_done (by kernel_rfl) ?_ _
     refine NoPanic.normal ?_
     go_wp2
     go_step3
     go_wp2_with (go_at_call 168; refine (HFR.out _ HBx.out _).mono ?_; rintro e wF ⟨rfl, hbF⟩; have HBy := Lib.hid (HBx.out.trans (hbF.mono (Nat.le_trans (by simp) HBx.out.size))); clear hbF HBx; have HBx := HBy; clear HBy)
     all_goals (try go_step3)
     all_goals (go_wp2_with (go_at_call 168; refine (HFR.out _ HBx.out _).mono ?_; rintro e wF ⟨rfl, hbF⟩; have HBy := Lib.hid (HBx.out.trans (hbF.mono (Nat.le_trans (by simp) HBx.out.size))); clear hbF HBx; have HBx := HBy; clear HBy))
     all_goals (try go_step3)
     all_goals (go_wp2_with (go_at_call 168; refine (HFR.out _ HBx.out _).mono ?_; rintro e wF ⟨rfl, hbF⟩; have HBy := Lib.hid (HBx.out.trans (hbF.mono (Nat.le_trans (by simp) HBx.out.size))); clear hbF HBx; have HBx := HBy; clear HBy))
     · rename_i hf
       have hlt := freeAt_lt hf
       obtain ⟨q, rfl⟩ : ∃ q, col = q + 1 := ⟨col - 1, by omega⟩
       rw [show ((q + 1 : Nat) : Int) - 1 = (q : Int) by omega]
       exact .inl ⟨rfl, q, q + 1, ⟨_, _, _, _, _, _, _, _, _, _, _, _, _, _, _, _, _, _, _, _, _, _, _, _, _, _, _, _, _, _, _, _, _, _, _, _, _, rfl⟩, rfl, Nat.le_refl _, HC.out, by omega, HBx.out⟩
     · rename_i hf _ hf2
       have hlt := freeAt_lt hf2
       rw [show (col : Int) + 1 = ((col + 1 : Nat) : Int) by omega]
       exact .inr ⟨rfl, col, col + 1, ⟨_, _, _, _, _, _, _, _, _, _, _, _, _, _, _, _, _, _, _, _, _, _, _, _, _, _, _, _, _, _, _, _, _, _, _, _, _, rfl⟩, lastF_on hf2, by omega, by omega, HC.out, HBx.out⟩
     · rename_i hf _ hf2
       simp only [Exit.jump2]
       (refine bodyPost_ret (v := .tuple #[.int .i64 col, .int .i64 col, .int .i64 0]) (by simp [results, Tryz.results148, go_sem]) rfl ⟨⟨col, by rw [HR.out, lastF_off hf2]⟩, Below.later HB0.out (HBx.out.mono (by simp)) HB0.out.size⟩)
   · rintro a' w' ⟨f, t, ⟨u0, u1, u2, u3, u7, u9, u10, u11, u12, u13, u14, u15, u16, u17, u18, u19, u20, u21, u22, u23, u24, u25, u26, u27, u28, u29, u30, u31, u32, u33, u34, u35, u36, u37, u38, u39, u40, rfl⟩, hl, h1, h2, h3, hb⟩
     have HBx := Lib.hid hb
     have HL := Lib.hid hl
     have h1' : t ≤ 255 := by omega
     clear hb hl
     go_wp2_with (go_at_call 168; refine (HFR.out _ HBx.out _).mono ?_; rintro e wF ⟨rfl, hbF⟩; have HBy := Lib.hid (HBx.out.trans (hbF.mono (Nat.le_trans (by simp) HBx.out.size))); clear hbF HBx; have HBx := HBy; clear HBy)
     all_goals (try go_step3)
     all_goals (go_wp2_with (go_at_call 168; refine (HFR.out _ HBx.out _).mono ?_; rintro e wF ⟨rfl, hbF⟩; have HBy := Lib.hid (HBx.out.trans (hbF.mono (Nat.le_trans (by simp) HBx.out.size))); clear hbF HBx; have HBx := HBy; clear HBy))
     all_goals (try go_step3)
     all_goals (go_wp2_with (go_at_call 168; refine (HFR.out _ HBx.out _).mono ?_; rintro e wF ⟨rfl, hbF⟩; have HBy := Lib.hid (HBx.out.trans (hbF.mono (Nat.le_trans (by simp) HBx.out.size))); clear hbF HBx; have HBx := HBy; clear HBy))
     · rename_i hf
       have hlt := freeAt_lt hf
       obtain ⟨q, rfl⟩ : ∃ q, f = q + 1 := ⟨f - 1, by omega⟩
       rw [show ((q + 1 : Nat) : Int) - 1 = (q : Int) by omega]
       exact .inl ⟨rfl, ⟨q, t, ⟨_, _, _, _, _, _, _, _, _, _, _, _, _, _, _, _, _, _, _, _, _, _, _, _, _, _, _, _, _, _, _, _, _, _, _, _, _, rfl⟩, HL.out, h1, h2, by omega, HBx.out⟩, by simp [intAt]⟩
     · rename_i hf _ hf2
       have hlt := freeAt_lt hf2
       rw [show (t : Int) + 1 = ((t + 1 : Nat) : Int) by omega]
       exact .inr ⟨rfl, ⟨f, t + 1, ⟨_, _, _, _, _, _, _, _, _, _, _, _, _, _, _, _, _, _, _, _, _, _, _, _, _, _, _, _, _, _, _, _, _, _, _, _, _, rfl⟩, (lastF_on hf2).trans HL.out, by omega, by omega, h3, HBx.out⟩, by simp [intAt]; omega⟩
     · rename_i hf _ hf2
       simp only [Exit.jump2]
       (refine bodyPost_ret (v := .tuple #[.int .i64 f, .int .i64 t, .int .i64 0]) (by simp [results, Tryz.results148, go_sem]) rfl ⟨⟨f, by rw [HR.out, ← HL.out, lastF_off hf2]⟩, Below.later HB0.out (HBx.out.mono (by simp)) HB0.out.size⟩)
   · rintro a' w' ⟨f, t, ⟨u0, u1, u2, u3, u7, u9, u10, u11, u12, u13, u14, u15, u16, u17, u18, u19, u20, u21, u22, u23, u24, u25, u26, u27, u28, u29, u30, u31, u32, u33, u34, u35, u36, u37, u38, u39, u40, rfl⟩, hl, h1, h2, h3, hb⟩
     have HBx := Lib.hid hb
     have HL := Lib.hid hl
     have h1' : t ≤ 255 := by omega
     clear hb hl
     go_wp2_with (go_at_call 168; refine (HFR.out _ HBx.out _).mono ?_; rintro e wF ⟨rfl, hbF⟩; have HBy := Lib.hid (HBx.out.trans (hbF.mono (Nat.le_trans (by simp) HBx.out.size))); clear hbF HBx; have HBx := HBy; clear HBy)
     all_goals (try go_step3)
     all_goals (go_wp2_with (go_at_call 168; refine (HFR.out _ HBx.out _).mono ?_; rintro e wF ⟨rfl, hbF⟩; have HBy := Lib.hid (HBx.out.trans (hbF.mono (Nat.le_trans (by simp) HBx.out.size))); clear hbF HBx; have HBx := HBy; clear HBy))
     all_goals (try go_step3)
     all_goals (go_wp2_with (go_at_call 168; refine (HFR.out _ HBx.out _).mono ?_; rintro e wF ⟨rfl, hbF⟩; have HBy := Lib.hid (HBx.out.trans (hbF.mono (Nat.le_trans (by simp) HBx.out.size))); clear hbF HBx; have HBx := HBy; clear HBy))
     · rename_i hf2
       have hlt := freeAt_lt hf2
       rw [show (t : Int) + 1 = ((t + 1 : Nat) : Int) by omega]
       exact .inr ⟨rfl, ⟨f, t + 1, ⟨_, _, _, _, _, _, _, _, _, _, _, _, _, _, _, _, _, _, _, _, _, _, _, _, _, _, _, _, _, _, _, _, _, _, _, _, _, rfl⟩, (lastF_on hf2).trans HL.out, by omega, by omega, h3, HBx.out⟩, by simp [intAt]; omega⟩
     · rename_i hf2
       simp only [Exit.jump2]
       (refine bodyPost_ret (v := .tuple #[.int .i64 f, .int .i64 t, .int .i64 0]) (by simp [results, Tryz.results148, go_sem]) rfl ⟨⟨f, by rw [HR.out, ← HL.out, lastF_off hf2]⟩, Below.later HB0.out (HBx.out.mono (by simp)) HB0.out.size⟩)
 · have HR : Hid (∀ f : Int, Value.tuple (if (true = true) then #[.int .i64 0, .int .i64 0, .int .i64 15] else #[.int .i64 f, .int .i64 (lastF D row col), .int .i64 0]) = .tuple #[.int .i64 0, .int .i64 0, .int .i64 15]) := fun f => by rw [if_pos rfl]
   rw [hgd] at HAT
   generalize D.X row col = x at *
   clear hc hr hgd
   go_enter Tryz.func148, Tryz.ntmps148
   go_wp2
   go_step3
   go_wp2_with (go_at_call 39; refine HAT.out.mono ?_; rintro e w1 ⟨rfl, hb1⟩; have HB1 := Lib.hid hb1; clear hb1)
   try rw [Exit.noGoto_ret]
   refine bodyPost_ret (v := .tuple #[.int .i64 0, .int .i64 0, .int .i64 15]) (by simp [results, Tryz.results148, go_sem]) rfl ⟨⟨0, by rw [HR.out]⟩, Below.later HB0.out (HB1.out.alloc HB1.out.size _) HB0.out.size⟩
def charsD (D : Vz.Gd) (row col : Nat) (n : Int) (x : Vz.Cl) (gd : Bool) : Vz.Gd :=
 if gd = true then (if (D.X row col).gd = true then D else D.slide row col (lastF D row col) (-(Vz.cutI n)) x) else D.slide row col (D.C - 1) (-(Vz.cutI n)) x
theorem chars_ok (gp : Nat) (F : Nat → Prop) (D : Vz.Gd) (row col : Nat) (n : Int) (x : Vz.Cl) (gd : Bool) (w : World) (h : Grid w gp F D) (hr : row < D.R) (hc : col < D.C) :
 Calls Tryz.prog 135 #[.pointer (some ⟨gp, 0, none⟩), .agg #[.int .i64 row, .int .i64 col], .int .i64 n, .agg #[.int .i32 x.g, .int .i64 x.a, .bool x.gd, .int .i64 x.m], .bool gd] w fun e w' => e = .returned (.int .i64 0) ∧ GridTo w w' gp F (charsD D row col n x gd) := by
 obtain ⟨m1, m2, m3, m4⟩ := h.may
 have HB : Hid (Below w.heap.size w ((w.alloc (.cells #[.int .i64 row, .int .i64 col] 36)).alloc (.cells (cellB x) 56))) := Grows.below (((Grows.refl w).alloc _).alloc _)
 obtain ⟨x0, x1, _⟩ := box2 (Below.refl ((w.alloc (.cells #[.int .i64 row, .int .i64 col] 36)).alloc (.cells (cellB x) 56)).heap.size _)
 have X0 := Lib.hid x0
 have X1 := Lib.hid x1
 have HFL := Lib.hid (fun W hb => field_ok gp F D row col W (h.below hb) hr hc)
 have H := Lib.hid h
 have hcut := cutI_in n
 have HM := Lib.hid (minus_any n)
 have hw : IntKind.i64.wrap ((D.C : Int) - 1) = ((D.C - 1 : Nat) : Int) := by rw [wrap_in (by omega) (by omega)]; omega
 have HSL : Hid (∀ b, col ≤ b → b < D.C → ∀ W, Below w.heap.size w W → Calls Tryz.prog 149 #[.pointer (some ⟨gp, 0, none⟩), .int .i64 row, .int .i64 col, .int .i64 b, .int .i64 (-(Vz.cutI n)), .agg #[.int .i32 x.g, .int .i64 x.a, .bool x.gd, .int .i64 x.m]] W fun e w' => e = .returned (.int .i64 0) ∧ GridTo w w' gp F (D.slide row col b (-(Vz.cutI n)) x)) := fun b hb hbC W hW =>
  (gslide_ok gp F D row col b (-(Vz.cutI n)) x W (h.below hW) hr hb hbC (by omega)).mono fun e w' ⟨e1, hG, hK⟩ => ⟨e1, GridTo.after hW ⟨⟨F, hG, fun k hk => .inl hk⟩, hK⟩⟩
 have HLF := Lib.hid (lastF_in D row col hc)
 have HC : Hid (col ≤ D.C - 1 ∧ D.C - 1 < D.C) := ⟨by omega, by omega⟩
 have HL : Hid (charsD D row col n x gd = if gd = true then (if (D.X row col).gd = true then D else D.slide row col (lastF D row col) (-(Vz.cutI n)) x) else D.slide row col (D.C - 1) (-(Vz.cutI n)) x) := rfl
 rw [HL.out]
 clear h hcut HL x0 x1 hr hc
 generalize hq : D.C - 1 = q at *
 generalize hc : -(Vz.cutI n) = c at *
 generalize hl : lastF D row col = l at *
 clear hq hc hl
 unfold cellB at *
 have HXX : Hid (∀ W, Below (w.heap.size + 1 + 1) ((w.alloc (.cells #[.int .i64 row, .int .i64 col] 36)).alloc (.cells #[.int .i32 x.g, .int .i64 x.a, .bool x.gd, .int .i64 x.m] 56)) W → W.heap[w.heap.size]? = some (.cells #[.int .i64 row, .int .i64 col] 36 (0, 0)) ∧ W.heap[w.heap.size + 1]? = some (.cells #[.int .i32 x.g, .int .i64 x.a, .bool x.gd, .int .i64 x.m] 56 (0, 0)) ∧ Below w.heap.size w W) := fun W hb => ⟨(hb.block _ (by omega)).trans X0.out, (hb.block _ (by omega)).trans X1.out, Below.later HB.out (hb.mono (by simp)) HB.out.size⟩
 cases gd
 · rw [if_neg (by decide)]
   have hmx : maxZ (q : Int) 0 = (q : Int) := by unfold maxZ; omega
   go_enter Tryz.func135, Tryz.ntmps135
   go_upto_region 7 with (go_at_call 60; refine (gsize_ok gp F D _ (H.out.below HB.out)).mono ?_; rintro e w1 ⟨rfl, hb1⟩; have HB1 := Lib.hid (show Below (w.heap.size + 1 + 1) _ w1 from hb1.mono (by simp)); clear hb1)
   have HD1 := Lib.hid HB1.out.drew
   refine wp_region_noPanic ?_
   refine wp_region_k (S := fun W' : World => Below (w.heap.size + 1 + 1) ((w.alloc (.cells #[.int .i64 row, .int .i64 col] 36)).alloc (.cells #[.int .i32 x.g, .int .i64 x.a, .bool x.gd, .int .i64 x.m] 56)) W') 10 (by kernel_rfl) (HD1.out) (fun hHeld => ?_)
   refine kSK 0 hHeld ?_
   refine kSK 1 hHeld ?_
   refine kTK (v := ?_) 2 [] hHeld ?y3 ?_
   case y3 => (intro W hSw; obtain ⟨y0, y1, _⟩ := HXX.out _ hSw; obtain ⟨p0, p1, _⟩ := row2 y0; obtain ⟨q0, q1, q2, q3⟩ := cell4 y1; go_simp; try with_reducible rfl)
   refine kSK 3 hHeld ?_
   refine kTK (v := ?_) 4 [] hHeld ?y5 ?_
   case y5 => (intro W hSw; obtain ⟨y0, y1, _⟩ := HXX.out _ hSw; obtain ⟨p0, p1, _⟩ := row2 y0; obtain ⟨q0, q1, q2, q3⟩ := cell4 y1; go_simp; try with_reducible rfl)
   try refine kNK ?_
   refine kSK 5 hHeld ?_
   refine kSK 6 hHeld ?_
   refine kSK 7 hHeld ?_
   refine kTK (v := ?_) 9 [] hHeld ?y9 ?_
   case y9 => (intro W hSw; obtain ⟨y0, y1, _⟩ := HXX.out _ hSw; obtain ⟨p0, p1, _⟩ := row2 y0; obtain ⟨q0, q1, q2, q3⟩ := cell4 y1; go_simp; try with_reducible rfl)
   try refine kNK ?_
   refine kOK 8 fun KQ hKQ => ?_
   go_simp
   go_at_call 147
   refine (HM.out _).mono ?_
   rintro e w3 ⟨rfl, rfl⟩
   go_wp2_with fail
   refine hKQ.out _ _ (hHeld) ?_
   clear hHeld hKQ KQ
   intro hHeld
   try refine kNK ?_
   refine kPK 10 fun KQ hKQ => ?_
   go_simp
   go_at_call 149
   refine (HSL.out q HC.out.1 HC.out.2 _ (HXX.out _ hHeld).2.2).mono ?_
   rintro e w4 ⟨rfl, hG⟩
   have HG := Lib.hid hG
   clear hG
   go_wp2_with fail
   refine hKQ.out _ _ ?_
   clear hKQ KQ
   try refine kNK ?_
   refine kBK 11 ?_
   try refine kNK ?_
   refine wpAnyK_done (by kernel_rfl) ?_ _
   refine NoPanic.normal ?_
   go_wp2_with fail
   go_ret
   exact ⟨rfl, HG.out⟩
 · rw [if_pos rfl]
   cases hgd : (D.X row col).gd
   · rw [if_neg (by decide)]
     rw [hgd] at HFL
     simp only [Bool.false_eq_true, if_false] at HFL
     have hmx : maxZ (l : Int) 0 = (l : Int) := by unfold maxZ; omega
     go_enter Tryz.func135, Tryz.ntmps135
     go_upto_region 7 with (first
      | (go_at_call 60; refine (gsize_ok gp F D _ (H.out.below HB.out)).mono ?_; rintro e w1 ⟨rfl, hb1⟩; have HB1 := Lib.hid (show Below (w.heap.size + 1 + 1) _ w1 from hb1.mono (by simp)); obtain ⟨y0, y1, y2⟩ := HXX.out _ HB1.out; obtain ⟨p0, p1, _⟩ := row2 y0; clear hb1)
      | (go_at_call 148; refine (HFL.out _ y2).mono ?_; rintro e w2 ⟨⟨f, rfl⟩, hb2⟩; have HB2 := Lib.hid (show Below (w.heap.size + 1 + 1) _ w2 from HB1.out.trans (hb2.mono (Nat.le_trans (by simp) HB1.out.size))); clear hb2))
     have HD1 := Lib.hid HB2.out.drew
     refine wp_region_noPanic ?_
     refine wp_region_k (S := fun W' : World => Below (w.heap.size + 1 + 1) ((w.alloc (.cells #[.int .i64 row, .int .i64 col] 36)).alloc (.cells #[.int .i32 x.g, .int .i64 x.a, .bool x.gd, .int .i64 x.m] 56)) W') 10 (by kernel_rfl) (HD1.out) (fun hHeld => ?_)
     refine kSK 0 hHeld ?_
     refine kSK 1 hHeld ?_
     refine kTK (v := ?_) 2 [] hHeld ?y3 ?_
     case y3 => (intro W hSw; obtain ⟨y0, y1, _⟩ := HXX.out _ hSw; obtain ⟨p0, p1, _⟩ := row2 y0; obtain ⟨q0, q1, q2, q3⟩ := cell4 y1; go_simp; try with_reducible rfl)
     refine kSK 3 hHeld ?_
     refine kTK (v := ?_) 4 [] hHeld ?y5 ?_
     case y5 => (intro W hSw; obtain ⟨y0, y1, _⟩ := HXX.out _ hSw; obtain ⟨p0, p1, _⟩ := row2 y0; obtain ⟨q0, q1, q2, q3⟩ := cell4 y1; go_simp; try with_reducible rfl)
     try refine kNK ?_
     refine kSK 5 hHeld ?_
     refine kSK 6 hHeld ?_
     refine kSK 7 hHeld ?_
     refine kTK (v := ?_) 9 [] hHeld ?y9 ?_
     case y9 => (intro W hSw; obtain ⟨y0, y1, _⟩ := HXX.out _ hSw; obtain ⟨p0, p1, _⟩ := row2 y0; obtain ⟨q0, q1, q2, q3⟩ := cell4 y1; go_simp; try with_reducible rfl)
     try refine kNK ?_
     refine kOK 8 fun KQ hKQ => ?_
     go_simp
     go_at_call 147
     refine (HM.out _).mono ?_
     rintro e w3 ⟨rfl, rfl⟩
     go_wp2_with fail
     refine hKQ.out _ _ (hHeld) ?_
     clear hHeld hKQ KQ
     intro hHeld
     try refine kNK ?_
     refine kPK 10 fun KQ hKQ => ?_
     go_simp
     go_at_call 149
     refine (HSL.out l HLF.out.1 HLF.out.2 _ (HXX.out _ hHeld).2.2).mono ?_
     rintro e w4 ⟨rfl, hG⟩
     have HG := Lib.hid hG
     clear hG
     go_wp2_with fail
     refine hKQ.out _ _ ?_
     clear hKQ KQ
     try refine kNK ?_
     refine kBK 11 ?_
     try refine kNK ?_
     refine wpAnyK_done (by kernel_rfl) ?_ _
     refine NoPanic.normal ?_
     go_wp2_with fail
     go_ret
     exact ⟨rfl, HG.out⟩
   · rw [if_pos rfl]
     rw [hgd] at HFL
     simp only [if_true] at HFL
     go_enter Tryz.func135, Tryz.ntmps135
     go_wp2_with (first
      | (go_at_call 60; refine (gsize_ok gp F D _ (H.out.below HB.out)).mono ?_; rintro e w1 ⟨rfl, hb1⟩; have HB1 := Lib.hid (show Below (w.heap.size + 1 + 1) _ w1 from hb1.mono (by simp)); obtain ⟨y0, y1, y2⟩ := HXX.out _ HB1.out; obtain ⟨p0, p1, _⟩ := row2 y0; clear hb1)
      | (go_at_call 148; refine (HFL.out _ y2).mono ?_; rintro e w2 ⟨⟨f, rfl⟩, hb2⟩; have HB2 := Lib.hid (show Below (w.heap.size + 1 + 1) _ w2 from HB1.out.trans (hb2.mono (Nat.le_trans (by simp) HB1.out.size))); clear hb2))
     go_ret
     exact ⟨rfl, (GridTo.refl H.out).later (HXX.out _ HB2.out).2.2⟩
end
end Go.Proofs.YtncgigapgklhcaaGreatDoor
