import Derived.Test.YtmgeghoalmonoaaGreatDoorAnB
import Derived.Test.YtmgeghoalmonoaaGreatDoorAnD

/- Walks of ANSI.SYS: rest, steps, the saved place, wraps. -/
namespace Go.Proofs.YtmgeghoalmonoaaGreatDoor
open Go.RowKit
set_option linter.unusedSimpArgs false
set_option linter.unusedVariables false
set_option maxRecDepth 100000
attribute [local go_sem] alloc_drewN setCell_drewN World.cell?_alloc_some frozen_alloc_some pos_f1

section
variable {w : World} {P : Pt} {G : Nat → Prop} {A : An} {v : Value} {l : List Int}
theorem AtX.new {w w1 : World} (hb1 : Below w.heap.size w w1) (p : Vz.Ps) : AtB w p w1.heap.size (w1.alloc (.cells #[.int .i64 p.row, .int .i64 p.col] 39)) := ⟨hb1.alloc hb1.size _, heap_alloc_new w1 _, hb1.size⟩
set_option maxHeartbeats 4000000 in
theorem an_rest (h : AnW w P G A) : Calls Tryz.prog 69 #[.pointer (some ⟨P.tp, 0, none⟩), v] w fun e w' => e = .returned (.tuple #[]) ∧ AnTo w w' P G (wipeN A A.S.pl.at_ ⟨A.S.pl.at_.row, (endP A).col⟩ A.attr) := by
  have HA := Lib.hid (fun W (hb : Below w.heap.size w W) => h.below hb)
  have HAT := Lib.hid (an_at h)
  clear h
  go_enter Tryz.func69, Tryz.ntmps69
  go_upto_region 1 with (go_at_call 50; refine HAT.out.mono ?_; rintro e w1 ⟨rfl, hb1⟩; have HB1 := Lib.hid hb1; clear hb1)
  have HX : Hid (AtB w A.S.pl.at_ w1.heap.size (w1.alloc (.cells #[.int .i64 A.S.pl.at_.row, .int .i64 A.S.pl.at_.col] 39))) := AtX.new HB1.out _
  generalize w1.alloc (.cells #[.int .i64 A.S.pl.at_.row, .int .i64 A.S.pl.at_.col] 39) = W2 at HX ⊢
  generalize w1.heap.size = x at HX ⊢
  have HXD : Hid (AtB w A.S.pl.at_ x W2.drew) := HX.out.below (Below.refl _ _).drew
  refine wp_region_noPanic ?_
  refine wp_region_k (S := fun W : World => AtB w A.S.pl.at_ x W) 13 (by kernel_rfl) (HXD.out) (fun hHeld => ?_)
  refine kSK 0 hHeld ?_
  refine kTK (v := ?_) 1 [] hHeld ?y2 ?_
  case y2 => (intro W hSw; obtain ⟨⟨_, _, _, y3, _⟩, _⟩ := (HA.out _ hSw.1).cells; obtain ⟨p0, p1, _⟩ := row2 hSw.2.1; go_simp; try with_reducible rfl)
  refine kSK 2 hHeld ?_
  refine kTK (v := ?_) 3 [7] hHeld ?y4 ?_
  case y4 => (intro W hSw; obtain ⟨⟨_, _, _, y3, _⟩, _⟩ := (HA.out _ hSw.1).cells; obtain ⟨p0, p1, _⟩ := row2 hSw.2.1; go_simp; try with_reducible rfl)
  refine kSK 4 hHeld ?_
  try refine kNK ?_
  refine kSK 8 hHeld ?_
  refine kSK 9 hHeld ?_
  refine kSK 10 hHeld ?_
  refine kSK 11 hHeld ?_
  refine kTK (v := ?_) 12 [] hHeld ?y10 ?_
  case y10 => (intro W hSw; obtain ⟨⟨_, _, _, y3, _⟩, _⟩ := (HA.out _ hSw.1).cells; obtain ⟨p0, p1, _⟩ := row2 hSw.2.1; go_simp; try with_reducible rfl)
  try refine kNK ?_
  refine kOK 5 fun KQ hKQ => ?_
  go_simp
  go_at_call 39
  refine (an_end (HA.out _ hHeld.1)).mono ?_
  rintro e w3 ⟨rfl, hb3⟩
  go_wp2_with fail
  refine hKQ.out _ _ (hHeld.below hb3) ?_
  clear hHeld hKQ KQ
  intro hHeld
  try refine kNK ?_
  refine kSK 6 hHeld ?_
  refine kSK 7 hHeld ?_
  try refine kNK ?_
  refine kPK 13 fun KQ hKQ => ?_
  go_simp
  go_at_call 38
  refine (an_wipe (HA.out _ hHeld.1) A.S.pl.at_ ⟨A.S.pl.at_.row, (endP A).col⟩ A.attr).mono ?_
  rintro e w4 ⟨rfl, ht⟩
  have HT := Lib.hid (AnTo.after hHeld.1 ht)
  clear ht
  go_wp2_with fail
  refine hKQ.out _ _ ?_
  clear hKQ KQ
  try refine kNK ?_
  refine wpAnyK_done (by kernel_rfl) ?_ _
  refine NoPanic.normal ?_
  go_wp2_with fail
  go_end0
  exact ⟨rfl, HT.out⟩
/-- A captured number. -/
def CapI (w : World) (c : Nat) (n : Int) : Prop := w.heap[c]? = some (.cells #[.int .i64 n] 3 (0, 0))
theorem mul_wrap (a n : Int) (ha : a = -1 ∨ a = 0 ∨ a = 1) (h0 : 0 ≤ n) (h1 : n ≤ 1000000) : IntKind.i64.wrap (a * n) = a * n := by
  rcases ha with rfl | rfl | rfl
  · exact wrap_in (by omega) (by omega)
  · exact wrap_in (by omega) (by omega)
  · exact wrap_in (by omega) (by omega)
set_option maxHeartbeats 4000000 in
theorem an_steps {ca cb : Nat} {a b : Int} (ha : a = -1 ∨ a = 0 ∨ a = 1) (hb' : b = -1 ∨ b = 0 ∨ b = 1) (h : AnW w P G A) (hn : NumsAt w v l) (hb : NumB l) (hca : CapI w ca a) (hcb : CapI w cb b) : Calls Tryz.prog 86 #[.pointer (some ⟨P.tp, 0, none⟩), v, .pointer (some ⟨ca, 0, none⟩), .pointer (some ⟨cb, 0, none⟩)] w fun e w' => e = .returned (.tuple #[]) ∧ AnTo w w' P G (stepN A (a * max (orN l 0 1) 1) (b * max (orN l 0 1) 1)) := by
  have o1 := orN_le hb 0 1 (by decide) (by decide)
  have HOR := Lib.hid (or_ok 0 (by decide) 1 w hn hb.1)
  obtain ⟨F, hs, hto⟩ := h.scrTo
  have HTO := Lib.hid hto
  have HA := Lib.hid (fun W (hb : Below w.heap.size w W) => h.below hb)
  have HC := Lib.hid (fun W (hb : Below w.heap.size w W) => (⟨(hb.block _ (block_lt hca)).trans hca, (hb.block _ (block_lt hcb)).trans hcb⟩ : CapI W ca a ∧ CapI W cb b))
  clear h hn hb hto hs hca hcb
  obtain ⟨x, hx⟩ : ∃ x, orN l 0 1 = x := ⟨_, rfl⟩
  rw [hx] at HOR o1 ⊢
  clear hx
  have e1 := mul_wrap a (max x 1) ha (by omega) (by omega)
  have e2 := mul_wrap b (max x 1) hb' (by omega) (by omega)
  obtain ⟨n, hmx⟩ : ∃ n, max x 1 = n := ⟨_, rfl⟩
  rw [hmx] at e1 e2 ⊢
  clear o1 ha hb'
  go_enter Tryz.func86, Tryz.ntmps86
  go_upto_region 1 with (go_at_call 87; refine HOR.out.mono ?_; rintro e w1 ⟨rfl, rfl⟩)
  clear hmx
  have HB0 : Hid (Below w1.heap.size w1 w1.drew) := (Below.refl _ _).drew
  refine wp_region_noPanic ?_
  refine wp_region_k (S := fun W : World => Below w1.heap.size w1 W) 10 (by kernel_rfl) (HB0.out) (fun hHeld => ?_)
  refine kSK 0 hHeld ?_
  refine kSK 1 hHeld ?_
  refine kSK 2 hHeld ?_
  refine kTK (v := ?_) 3 [] hHeld ?y4 ?_
  case y4 => (intro W hSw; obtain ⟨⟨y0, _⟩, _⟩ := (HA.out _ hSw).cells; have ca0 := cell_row (HC.out _ hSw).1 0; have cb0 := cell_row (HC.out _ hSw).2 0; go_simp; try with_reducible rfl)
  refine kTK (v := ?_) 4 [6] hHeld ?y5 ?_
  case y5 => (intro W hSw; obtain ⟨⟨y0, _⟩, _⟩ := (HA.out _ hSw).cells; have ca0 := cell_row (HC.out _ hSw).1 0; have cb0 := cell_row (HC.out _ hSw).2 0; go_simp; try with_reducible rfl)
  try refine kNK ?_
  refine kSK 5 hHeld ?_
  refine kSK 6 hHeld ?_
  refine kTK (v := ?_) 7 [9] hHeld ?y8 ?_
  case y8 => (intro W hSw; obtain ⟨⟨y0, _⟩, _⟩ := (HA.out _ hSw).cells; have ca0 := cell_row (HC.out _ hSw).1 0; have cb0 := cell_row (HC.out _ hSw).2 0; go_simp; try with_reducible rfl)
  refine kSK 8 hHeld ?_
  refine kSK 9 hHeld ?_
  try refine kNK ?_
  refine kPK 10 fun KQ hKQ => ?_
  go_simp
  go_at_call 51
  obtain ⟨F, hs, hto⟩ := (HA.out _ HB0.out).scrTo
  refine (scr_step P.sp F A.S (a * n) (b * n) _ hs).mono ?_
  rintro e w3 ⟨rfl, ht⟩
  have HT := Lib.hid (AnTo.after HB0.out (hto _ _ ht))
  clear ht hto hs
  go_wp2_with fail
  refine hKQ.out _ _ ?_
  clear hKQ KQ
  try refine kNK ?_
  refine wpAnyK_done (by kernel_rfl) ?_ _
  refine NoPanic.normal ?_
  go_wp2_with fail
  go_end0
  exact ⟨rfl, HT.out⟩
set_option maxHeartbeats 4000000 in
theorem an_save (h : AnW w P G A) : Calls Tryz.prog 71 #[.pointer (some ⟨P.tp, 0, none⟩), v] w fun e w' => e = .returned (.tuple #[]) ∧ AnTo w w' P G { A with sv := A.S.pl.at_ } := by
  have HA := Lib.hid (fun W (hb : Below w.heap.size w W) => h.below hb)
  have HAT := Lib.hid (an_at h)
  clear h
  go_enter Tryz.func71, Tryz.ntmps71
  go_wp2_with (go_at_call 50; refine HAT.out.mono ?_; rintro e w1 ⟨rfl, hb1⟩; have HB1 := Lib.hid hb1; obtain ⟨⟨_, _, _, _, _, s5, s6, _⟩, _, _, f5, f6, _⟩ := (HA.out _ hb1).cells; clear hb1)
  go_end0
  have h1 := HA.out _ HB1.out
  exact ⟨rfl, AnTo.after HB1.out (h1.boxed (A' := { A with sv := A.S.pl.at_ }) rfl rfl rfl rfl rfl rfl (heap_set_same (heap_set_same h1.box 5 (.int .i64 A.S.pl.at_.row)) 6 (.int .i64 A.S.pl.at_.col)) ((Keeps.setCell (fun k => k = P.tp) w1 (p := ⟨P.tp, 5, none⟩) rfl (.int .i64 A.S.pl.at_.row)).setCell' (p := ⟨P.tp, 6, none⟩) rfl (.int .i64 A.S.pl.at_.col)))⟩
set_option maxHeartbeats 4000000 in
theorem an_back (h : AnW w P G A) : Calls Tryz.prog 72 #[.pointer (some ⟨P.tp, 0, none⟩), v] w fun e w' => e = .returned (.tuple #[]) ∧ AnTo w w' P G (moveN A A.sv) := by
  have HA := Lib.hid (fun W (hb : Below w.heap.size w W) => h.below hb)
  clear h
  go_enter Tryz.func72, Tryz.ntmps72
  go_upto_region 0 with fail
  have HB0 : Hid (Below w.heap.size w w.drew) := (Below.refl _ _).drew
  refine wp_region_noPanic ?_
  refine wp_region_k (S := fun W : World => Below w.heap.size w W) 9 (by kernel_rfl) (HB0.out) (fun hHeld => ?_)
  refine kSK 0 hHeld ?_
  refine kSK 1 hHeld ?_
  refine kSK 2 hHeld ?_
  refine kTK (v := ?_) 3 [] hHeld ?y4 ?_
  case y4 => (intro W hSw; obtain ⟨⟨y0, _, _, _, _, y5, y6, _⟩, _⟩ := (HA.out _ hSw).cells; go_simp; try with_reducible rfl)
  refine kSK 4 hHeld ?_
  try refine kNK ?_
  refine kSK 5 hHeld ?_
  refine kSK 6 hHeld ?_
  refine kSK 7 hHeld ?_
  refine kTK (v := ?_) 8 [] hHeld ?y9 ?_
  case y9 => (intro W hSw; obtain ⟨⟨y0, _, _, _, _, y5, y6, _⟩, _⟩ := (HA.out _ hSw).cells; go_simp; try with_reducible rfl)
  try refine kNK ?_
  refine kPK 9 fun KQ hKQ => ?_
  go_simp
  go_at_call 40
  obtain ⟨F, hs, hto⟩ := (HA.out _ HB0.out).scrTo
  refine (scr_move P.sp F A.S A.sv _ hs).mono ?_
  rintro e w3 ⟨rfl, ht⟩
  have HT := Lib.hid (AnTo.after HB0.out (hto _ _ ht))
  clear ht hto hs
  go_wp2_with fail
  refine hKQ.out _ _ ?_
  clear hKQ KQ
  try refine kNK ?_
  refine wpAnyK_done (by kernel_rfl) ?_ _
  refine NoPanic.normal ?_
  go_wp2_with fail
  go_end0
  exact ⟨rfl, HT.out⟩
end
end Go.Proofs.YtmgeghoalmonoaaGreatDoor
