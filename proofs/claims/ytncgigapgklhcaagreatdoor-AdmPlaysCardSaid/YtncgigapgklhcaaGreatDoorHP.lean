import Derived.Test.YtncgigapgklhcaaGreatDoorHO
import Derived.Test.YtncgigapgklhcaaGreatDoorHJ
import Derived.Test.YtncgigapgklhcaaGreatDoorHG
import Derived.Test.YtncgigapgklhcaaGreatDoorHZ

set_option maxRecDepth 100000
set_option maxHeartbeats 16000000
namespace Go.Proofs.YtncgigapgklhcaaGreatDoor
open Go.RowKit
set_option linter.unusedSimpArgs false
set_option linter.unusedVariables false
/- Walks: ink.Guard. -/
section
attribute [local go_sem] alloc_drewN setCell_drewN World.cell?_alloc_some frozen_alloc_some size_f0 size_f1
def guardD (D : Vz.Gd) (c : Vz.Cl) (q : Nat) : Vz.Gd := D.set (q / D.C) (q % D.C) c
def nextN (D : Vz.Gd) (q : Nat) : Nat := (q + 1) % (D.R * D.C)
def guardP (D : Vz.Gd) (p : Vz.Ps) (o : Option Nat) : Vz.Ps := match o with
 | none => Vz.nearP D.R D.C p
 | some q => openP D (some q)
theorem guard_none (gp : Nat) (F : Nat → Prop) (D : Vz.Gd) (p : Vz.Ps) (pd : Bool) (c : Vz.Cl) (w : World) (h : Grid w gp F D) (ho : openN D p 1 = none) :
 Calls Tryz.prog 106 #[.pointer (some ⟨gp, 0, none⟩), .agg #[.int .i64 p.row, .int .i64 p.col, .bool pd], .agg #[.int .i32 c.g, .int .i64 c.a, .bool c.gd, .int .i64 c.m]] w fun e w' => e = .returned (.tuple #[.agg #[.int .i64 0, .int .i64 0, .bool false], .int .i64 15]) ∧ Below w.heap.size w w' := by
 have HB0 : Hid (Below w.heap.size w (((w.alloc (.cells #[.int .i64 p.row, .int .i64 p.col, .bool pd] 76)).alloc (.cells #[.int .i32 c.g, .int .i64 c.a, .bool c.gd, .int .i64 c.m] 56)).alloc (.cells #[.int .i64 0, .int .i64 0, .bool false] 76))) := Grows.below ((((Grows.refl w).alloc _).alloc _).alloc _)
 obtain ⟨n0, n1, n2, _⟩ := box3 (Below.refl (((w.alloc (.cells #[.int .i64 p.row, .int .i64 p.col, .bool pd] 76)).alloc (.cells #[.int .i32 c.g, .int .i64 c.a, .bool c.gd, .int .i64 c.m] 56)).alloc (.cells #[.int .i64 0, .int .i64 0, .bool false] 76)).heap.size (((w.alloc (.cells #[.int .i64 p.row, .int .i64 p.col, .bool pd] 76)).alloc (.cells #[.int .i32 c.g, .int .i64 c.a, .bool c.gd, .int .i64 c.m] 56)).alloc (.cells #[.int .i64 0, .int .i64 0, .bool false] 76)))
 have HO := Lib.hid (free_ok gp F D p _ (h.below HB0.out))
 have HN2 := Lib.hid n2
 obtain ⟨p0, p1, p2, _⟩ := row3 n0
 clear h n0 n1 n2
 rw [ho] at HO
 simp only [openP, Option.isSome] at HO
 go_enter Tryz.func106, Tryz.ntmps106
 go_wp2_with (go_at_call 100; refine HO.out.mono ?_; rintro e w2 ⟨rfl, hb2⟩; have HX := Lib.hid ((hb2.block _ (block_lt HN2.out)).trans HN2.out); have HB2 := Lib.hid (Below.later HB0.out hb2 HB0.out.size); clear hb2; obtain ⟨x0, x1, x2, f0, f1, f2⟩ := row3 HX.out)
 obtain ⟨r0, r1, r2, _⟩ := row3 (set_three ((Below.heap_alloc _ _ _ (block_lt HX.out)).trans HX.out : (w2.alloc (.cells #[.int .i64 0, .int .i64 0] 36)).heap[w.heap.size + 1 + 1]? = _) (.int .i64 0) (.int .i64 0) (.bool false))
 refine bodyPost_ret (v := .tuple #[.agg #[.int .i64 0, .int .i64 0, .bool false], .int .i64 15]) (by simp [results, Tryz.results106, go_sem, r0, r1, r2]) rfl ⟨rfl, ((((HB2.out.alloc HB2.out.size _).setCell (p := ⟨w.heap.size + 1 + 1, 0, none⟩) (by show w.heap.size ≤ w.heap.size + 1 + 1; omega) _).setCell (p := ⟨w.heap.size + 1 + 1, 1, none⟩) (by show w.heap.size ≤ w.heap.size + 1 + 1; omega) _).setCell (p := ⟨w.heap.size + 1 + 1, 2, none⟩) (by show w.heap.size ≤ w.heap.size + 1 + 1; omega) _)⟩
theorem guard_some (gp : Nat) (F : Nat → Prop) (D : Vz.Gd) (p : Vz.Ps) (pd : Bool) (c : Vz.Cl) (q : Nat) (w : World) (h : Grid w gp F D) (ho : openN D p 1 = some q) :
 Calls Tryz.prog 106 #[.pointer (some ⟨gp, 0, none⟩), .agg #[.int .i64 p.row, .int .i64 p.col, .bool pd], .agg #[.int .i32 c.g, .int .i64 c.a, .bool c.gd, .int .i64 c.m]] w fun e w' => e = .returned (.tuple #[.agg #[.int .i64 (guardP (guardD D c q) p (openN (guardD D c q) ⟨((nextN D q / D.C : Nat) : Int), ((nextN D q % D.C : Nat) : Int)⟩ 1)).row, .int .i64 (guardP (guardD D c q) p (openN (guardD D c q) ⟨((nextN D q / D.C : Nat) : Int), ((nextN D q % D.C : Nat) : Int)⟩ 1)).col, .bool false], .int .i64 0]) ∧ GridTo w w' gp F (guardD D c q) := by
 have hmay := h.may
 obtain ⟨m1, m2, m3, m4⟩ := hmay
 obtain ⟨hq1, hq2⟩ := openN_some h.may ho
 obtain ⟨hqr, hqc⟩ := place_of q D.R D.C m3 hq1
 have hm : Vz.mayS D.R D.C = true := Vz.Gd.may_mayS h.may
 have hmul : D.R * D.C ≤ 255 * 255 := Nat.mul_le_mul m2 m4
 have hpos : 0 < D.R * D.C := Nat.mul_pos m1 m3
 have HB0 : Hid (Below w.heap.size w (((w.alloc (.cells #[.int .i64 p.row, .int .i64 p.col, .bool pd] 76)).alloc (.cells #[.int .i32 c.g, .int .i64 c.a, .bool c.gd, .int .i64 c.m] 56)).alloc (.cells #[.int .i64 0, .int .i64 0, .bool false] 76))) := Grows.below ((((Grows.refl w).alloc _).alloc _).alloc _)
 have HS0 : Hid (Has w.heap.size (w.heap.size + 1 + 1 + 1) (((w.alloc (.cells #[.int .i64 p.row, .int .i64 p.col, .bool pd] 76)).alloc (.cells #[.int .i32 c.g, .int .i64 c.a, .bool c.gd, .int .i64 c.m] 56)).alloc (.cells #[.int .i64 0, .int .i64 0, .bool false] 76))
  [(w.heap.size + 1 + 1, .cells #[.int .i64 0, .int .i64 0, .bool false] 76), (w.heap.size + 1, .cells #[.int .i32 c.g, .int .i64 c.a, .bool c.gd, .int .i64 c.m] 56), (w.heap.size, .cells #[.int .i64 p.row, .int .i64 p.col, .bool pd] 76)]) := by
  have h1 := (Has.nil w.heap.size 0 w).alloc (Nat.le_refl _) (.cells #[.int .i64 p.row, .int .i64 p.col, .bool pd] 76)
  have h2 := h1.alloc (by simp) (.cells #[.int .i32 c.g, .int .i64 c.a, .bool c.gd, .int .i64 c.m] 56)
  have h3 := h2.alloc (by simp; omega) (.cells #[.int .i64 0, .int .i64 0, .bool false] 76)
  simp only [World.size_alloc] at h3
  exact h3
 have HLT := Lib.hid h.lt
 have HO := Lib.hid (free_ok gp F D p _ (h.below HB0.out))
 rw [ho] at HO
 simp only [openP, Option.isSome] at HO
 have HSET : Hid (∀ W, Below w.heap.size w W → Calls Tryz.prog 126 #[.pointer (some ⟨gp, 0, none⟩), .agg #[.int .i64 ((q / D.C : Nat) : Int), .int .i64 ((q % D.C : Nat) : Int)], .agg #[.int .i32 c.g, .int .i64 c.a, .bool c.gd, .int .i64 c.m]] W fun e w' => e = .returned (.int .i64 0) ∧ Grid w' gp F (guardD D c q) ∧ Keeps F W w') := fun W hb => (gset_ok gp F D ⟨((q / D.C : Nat) : Int), ((q % D.C : Nat) : Int)⟩ c W (h.below hb) ⟨Int.natCast_nonneg _, by show ((q / D.C : Nat) : Int) < _; omega, Int.natCast_nonneg _, by show ((q % D.C : Nat) : Int) < _; omega⟩)
 have HIX := Lib.hid (index_ok D.R D.C (q / D.C) (q % D.C) hm hqr hqc)
 have hqq : q / D.C * D.C + q % D.C = q := by rw [Nat.mul_comm]; exact Nat.div_add_mod q D.C
 rw [hqq] at HIX
 have hnl : nextN D q < D.R * D.C := Nat.mod_lt _ hpos
 have HOF := Lib.hid (of_ok D.R D.C (nextN D q) hm hnl)
 have hnx : ((nextN D q : Nat) : Int) = Int.tmod ((q : Int) + 1) ((D.R * D.C : Nat) : Int) := by
  unfold nextN
  rw [Int.tmod_eq_emod_of_nonneg (by omega)]
  push_cast
  rfl
 have HGD : Hid ((guardD D c q).R = D.R ∧ (guardD D c q).C = D.C) := ⟨rfl, rfl⟩
 have HSZ := Lib.hid (fun W => gsize_ok gp F (guardD D c q) W)
 have HFR := Lib.hid (fun W => free_ok gp F (guardD D c q) ⟨((nextN D q / D.C : Nat) : Int), ((nextN D q % D.C : Nat) : Int)⟩ W)
 have HNR := Lib.hid (near_pos D.R D.C p.row p.col)
 have HGP : Hid (∀ o, guardP (guardD D c q) p o = match o with
  | none => Vz.nearP D.R D.C ⟨p.row, p.col⟩
  | some q' => openP (guardD D c q) (some q')) := fun o => by cases o <;> rfl
 simp only [HGD.out.1, HGD.out.2] at HSZ
 clear h ho hq2 hqq
 generalize guardD D c q = D1 at *
 have hwm : IntKind.i64.wrap ((D.R : Int) * (D.C : Int)) = ((D.R * D.C : Nat) : Int) := by rw [wrap_in (by push_cast at *; omega) (by push_cast at *; omega)]; push_cast; rfl
 generalize hqr' : q / D.C = qr at *
 generalize hqc' : q % D.C = qc at *
 generalize hna : D.R * D.C = na at *
 generalize hnn : nextN D q = nn at *
 generalize hnr : nn / D.C = nr at *
 generalize hnc : nn % D.C = nc at *
 obtain ⟨p0, p1, p2, _⟩ := row3 (HS0.out.nth 2 rfl)
 clear hqr' hqc' hnr hnc hnn
 go_enter Tryz.func106, Tryz.ntmps106
 go_upto_region 9 with (first
  | (go_at_call 127; refine (HIX.out _).mono ?_; rintro e w4 ⟨rfl, hb4⟩; have HS4 := Lib.hid (HS3.out.below hb4); have HB4 := Lib.hid (Below.later HB3.out hb4 HB3.out.size); clear hb4 s0 s1 q0 q1)
  | (go_at_call 60; refine (HSZ.out _ HG2.out).mono ?_; rintro e w3 ⟨rfl, hb3⟩; have hz3 : w.heap.size ≤ w3.heap.size := Nat.le_trans HK2.out.size hb3.size; have HS3 := Lib.hid ((HS2.out.below hb3).alloc hz3 (.cells #[.int .i64 D.R, .int .i64 D.C] 23)); obtain ⟨s0, s1, _⟩ := row2 (HS3.out.nth 0 rfl); obtain ⟨q0, q1, _⟩ := row2 (HS3.out.nth 1 rfl); have HB3 := Lib.hid (Below.later hb3 (below1 w3 (.cells #[.int .i64 D.R, .int .i64 D.C] 23)) hb3.size); clear hb3)
  | (go_at_call 126; refine (HSET.out _ HB1.out).mono ?_; rintro e w2 ⟨rfl, hG2, hK2⟩; have HS2 := Lib.hid (HS1.out.keeps hK2 (fun k hk => .inl (HLT.out k hk))); have HG2 := Lib.hid hG2; have HK2 := Lib.hid ((Keeps.of_below HB1.out : Keeps F w _).trans hK2 (fun k hk => .inl hk)); clear hG2 hK2 c0 c1 c2 c3 q0 q1)
  | (go_at_call 100; refine HO.out.mono ?_; rintro e w1 ⟨rfl, hb1⟩; clear p0 p1 p2; have hz1 : w.heap.size ≤ w1.heap.size := Nat.le_trans HB0.out.size hb1.size; have HS1 := Lib.hid ((HS0.out.below hb1).alloc hz1 (.cells #[.int .i64 qr, .int .i64 qc] 36)); obtain ⟨c0, c1, c2, c3, _⟩ := row4 (HS1.out.nth 2 rfl); obtain ⟨q0, q1, _⟩ := row2 (HS1.out.nth 0 rfl); have HB1 := Lib.hid (Below.later HB0.out (Below.later hb1 (below1 w1 (.cells #[.int .i64 qr, .int .i64 qc] 36)) hb1.size) HB0.out.size); clear hb1))
 have HGW : Hid (∀ W', Below w4.heap.size w4 W' → W'.heap[w3.heap.size]? = some (.cells #[.int .i64 D.R, .int .i64 D.C] 23 (0, 0)) ∧ W'.heap[w.heap.size]? = some (.cells #[.int .i64 p.row, .int .i64 p.col, .bool pd] 76 (0, 0)) ∧ W'.heap[w.heap.size + 1 + 1]? = some (.cells #[.int .i64 0, .int .i64 0, .bool false] 76 (0, 0))) := fun W' hb => ⟨(hb.block _ (block_lt (HS4.out.nth 0 rfl))).trans (HS4.out.nth 0 rfl), (hb.block _ (block_lt (HS4.out.nth 4 rfl))).trans (HS4.out.nth 4 rfl), (hb.block _ (block_lt (HS4.out.nth 2 rfl))).trans (HS4.out.nth 2 rfl)⟩
 have hw1 : IntKind.i64.wrap ((q : Int) + 1) = (q : Int) + 1 := wrap_in (by omega) (by omega)
 have hrem : Int.tmod ((q : Int) + 1) (na : Int) = (nn : Int) := hnx.symm
 have hwr : IntKind.i64.wrap (nn : Int) = (nn : Int) := wrap_in (by omega) (by omega)
 have hn0 : ¬ na = 0 := by omega
 clear hnx
 have HG4 : Hid (Grid w4 gp F D1) := HG2.out.below HB4.out
 have hl4 : w.heap.size + 1 + 1 < w4.heap.size := block_lt (HS4.out.nth 2 rfl)
 have hl3 : w3.heap.size < w4.heap.size := block_lt (HS4.out.nth 0 rfl)
 obtain ⟨o, hoe⟩ : ∃ o, o = openN D1 ⟨(nr : Int), (nc : Int)⟩ 1 := ⟨_, rfl⟩
 have HOE := Lib.hid hoe
 rw [← hoe] at HFR
 clear hoe
 refine wp_region_noPanic ?_
 refine wp_region_k (S := fun W' : World => Below w4.heap.size w4 W') 14 (by kernel_rfl) ((Below.refl _ _).drew) (fun hHeld => ?_)
 refine kTK (v := ?_) 0 [] hHeld ?y1 ?_
 case y1 => (intro W hSw; obtain ⟨y1, y2, y3⟩ := HGW.out _ hSw; obtain ⟨s0, s1, _⟩ := row2 y1; go_simp; try with_reducible rfl)
 refine kSK 1 hHeld ?_
 refine kSK 2 hHeld ?_
 refine kSK 3 hHeld ?_
 refine kTK (v := ?_) 4 [] hHeld ?y5 ?_
 case y5 => (intro W hSw; obtain ⟨y1, y2, y3⟩ := HGW.out _ hSw; obtain ⟨s0, s1, _⟩ := row2 y1; go_simp; try with_reducible rfl)
 try refine kNK ?_
 refine kSK 5 hHeld ?_
 refine kTK (v := ?_) 6 [] hHeld ?y7 ?_
 case y7 => (intro W hSw; obtain ⟨y1, y2, y3⟩ := HGW.out _ hSw; obtain ⟨s0, s1, _⟩ := row2 y1; go_simp; try with_reducible rfl)
 refine kSK 7 hHeld ?_
 refine kSK 8 hHeld ?_
 try refine kNK ?_
 refine wpAnyK_ready (rs := [9, 13]) (by kernel_rfl) (by simp) ?_
 refine AllReadyK.cons rfl (fun KQ hKQ => ?_) (AllReadyK.cons rfl (fun KQ hKQ => ?_) AllReadyK.nil)
 focus
  obtain ⟨Wc, hWc⟩ : ∃ Wc, Wc = Below.world hHeld := ⟨_, rfl⟩
  simp only [Below.world] at hWc
  rw [← hWc] at hHeld ⊢
  try rw [← hWc] at HF
  clear hWc
  go_simp
  go_at_call 128
  refine (HOF.out _).mono ?_
  rintro e wa ⟨rfl, hba⟩
  try (have HFn := Lib.hid ((hba.block _ (block_lt HF.out)).trans HF.out); clear HF; have HF := HFn; clear HFn)
  have hHn := Below.later hHeld hba hHeld.size
  clear hba
  go_wp2_with fail
  refine hKQ.out _ _ (hHn) ?_
  clear hHeld hKQ KQ
  intro hHeld
  try refine kNK ?_
  refine kSK 10 hHeld ?_
  refine kSK 11 hHeld ?_
  refine kSK 12 hHeld ?_
  try refine kNK ?_
  refine kOK 13 fun KQ hKQ => ?_
  obtain ⟨Wc, hWc⟩ : ∃ Wc, Wc = Below.world hHeld := ⟨_, rfl⟩
  simp only [Below.world] at hWc
  rw [← hWc] at hHeld ⊢
  try rw [← hWc] at HF
  clear hWc
  go_simp
  have hnew := heap_alloc_new Wc (.cells #[.int .i64 0, .int .i64 0] 36)
  have hbn := below1 Wc (.cells #[.int .i64 0, .int .i64 0] 36)
  have hnz : w4.heap.size ≤ Wc.heap.size := hHeld.size
  have HF := Lib.hid hnew
  have hHn := Below.later hHeld hbn hHeld.size
  clear hnew hbn
  generalize Wc.alloc (.cells #[.int .i64 0, .int .i64 0] 36) = Wd at *
  generalize Wc.heap.size = g at *
  refine hKQ.out _ _ (hHn) ?_
  clear hHeld hKQ KQ
  intro hHeld
  try refine kNK ?_
  refine kPK 14 fun KQ hKQ => ?_
  obtain ⟨Wc, hWc⟩ : ∃ Wc, Wc = Below.world hHeld := ⟨_, rfl⟩
  simp only [Below.world] at hWc
  rw [← hWc] at hHeld ⊢
  try rw [← hWc] at HF
  clear hWc
  obtain ⟨d0, d1, g0, g1⟩ := row2 HF.out
  go_simp
  refine hKQ.out _ _ ?_
  clear hKQ KQ
  try refine kNK ?_
  refine kBK 15 ?_
  try refine kNK ?_
  refine wpAnyK_done (by kernel_rfl) ?_ _
  refine NoPanic.normal ?_
 rotate_left 1
 focus
  obtain ⟨Wc, hWc⟩ : ∃ Wc, Wc = Below.world hHeld := ⟨_, rfl⟩
  simp only [Below.world] at hWc
  rw [← hWc] at hHeld ⊢
  try rw [← hWc] at HF
  clear hWc
  go_simp
  have hnew := heap_alloc_new Wc (.cells #[.int .i64 0, .int .i64 0] 36)
  have hbn := below1 Wc (.cells #[.int .i64 0, .int .i64 0] 36)
  have hnz : w4.heap.size ≤ Wc.heap.size := hHeld.size
  have HF := Lib.hid hnew
  have hHn := Below.later hHeld hbn hHeld.size
  clear hnew hbn
  generalize Wc.alloc (.cells #[.int .i64 0, .int .i64 0] 36) = Wd at *
  generalize Wc.heap.size = g at *
  refine hKQ.out _ _ (hHn) ?_
  clear hHeld hKQ KQ
  intro hHeld
  try refine kNK ?_
  refine kOK 9 fun KQ hKQ => ?_
  obtain ⟨Wc, hWc⟩ : ∃ Wc, Wc = Below.world hHeld := ⟨_, rfl⟩
  simp only [Below.world] at hWc
  rw [← hWc] at hHeld ⊢
  try rw [← hWc] at HF
  clear hWc
  go_simp
  go_at_call 128
  refine (HOF.out _).mono ?_
  rintro e wa ⟨rfl, hba⟩
  try (have HFn := Lib.hid ((hba.block _ (block_lt HF.out)).trans HF.out); clear HF; have HF := HFn; clear HFn)
  have hHn := Below.later hHeld hba hHeld.size
  clear hba
  go_wp2_with fail
  refine hKQ.out _ _ (hHn) ?_
  clear hHeld hKQ KQ
  intro hHeld
  try refine kNK ?_
  refine kSK 10 hHeld ?_
  refine kSK 11 hHeld ?_
  refine kSK 12 hHeld ?_
  try refine kNK ?_
  refine kPK 14 fun KQ hKQ => ?_
  obtain ⟨Wc, hWc⟩ : ∃ Wc, Wc = Below.world hHeld := ⟨_, rfl⟩
  simp only [Below.world] at hWc
  rw [← hWc] at hHeld ⊢
  try rw [← hWc] at HF
  clear hWc
  obtain ⟨d0, d1, g0, g1⟩ := row2 HF.out
  go_simp
  refine hKQ.out _ _ ?_
  clear hKQ KQ
  try refine kNK ?_
  refine kBK 15 ?_
  try refine kNK ?_
  refine wpAnyK_done (by kernel_rfl) ?_ _
  refine NoPanic.normal ?_
 rotate_left 1
 all_goals (
  have hgz : w4.heap.size ≤ g := by first | exact hnz | omega
  have hWE : Below w4.heap.size w4 ((Wc.setCell ⟨g, 0, none⟩ (.int .i64 (nr : Int))).setCell ⟨g, 1, none⟩ (.int .i64 (nc : Int))) := (hHeld.setCell (p := ⟨g, 0, none⟩) hgz _).setCell (p := ⟨g, 1, none⟩) hgz _
  have hf5 := set_two HF.out (.int .i64 (nr : Int)) (.int .i64 (nc : Int))
  clear HF hHeld d0 d1 g0 g1
  generalize ((Wc.setCell ⟨g, 0, none⟩ (.int .i64 (nr : Int))).setCell ⟨g, 1, none⟩ (.int .i64 (nc : Int))) = We at *
  obtain ⟨q0, q1, _⟩ := row2 hf5
  have HF5 := Lib.hid hf5
  have HWE := Lib.hid hWE
  have HCF := Lib.hid (HFR.out We (HG4.out.below hWE))
  clear hf5 hWE
  cases o
  · simp only [openP, Option.isSome] at HCF
    go_upto_region 11 with (go_at_call 100; refine HCF.out.mono ?_; rintro e w6 ⟨rfl, hb6⟩; clear q0 q1; have HF6 := Lib.hid ((hb6.block _ (block_lt HF5.out)).trans HF5.out); obtain ⟨q0, q1, f0, f1⟩ := row2 HF6.out; have HB6 := Lib.hid (Below.later HWE.out hb6 HWE.out.size); clear hb6)
    have hf7 := set_two HF6.out (.int .i64 0) (.int .i64 0)
    have hb7 : Below w4.heap.size w4 ((w6.setCell ⟨g, 0, none⟩ (.int .i64 0)).setCell ⟨g, 1, none⟩ (.int .i64 0)) := (HB6.out.setCell (p := ⟨g, 0, none⟩) hgz _).setCell (p := ⟨g, 1, none⟩) hgz _
    clear q0 q1 f0 f1
    generalize ((w6.setCell ⟨g, 0, none⟩ (.int .i64 0)).setCell ⟨g, 1, none⟩ (.int .i64 0)) = W7 at *
    have HF7 := Lib.hid hf7
    have HB7 := Lib.hid hb7
    obtain ⟨y1, y2, y3⟩ := HGW.out _ hb7
    obtain ⟨s0, s1, _⟩ := row2 y1
    obtain ⟨p0, p1, p2, _⟩ := row3 y2
    clear hf7 hb7 y1 y2 y3
    go_upto_region 13 with (go_at_call 91; refine (HNR.out _).mono ?_; rintro e w8 ⟨rfl, hg8⟩; have hb8 := hg8.below; have HF8 := Lib.hid ((hb8.block _ (block_lt HF7.out)).trans HF7.out); obtain ⟨q0, q1, f0, f1⟩ := row2 HF8.out; have HB8 := Lib.hid (Below.later HB7.out hb8 HB7.out.size); clear hb8 hg8 s0 s1 p0 p1 p2)
    generalize hP : Vz.nearP D.R D.C ⟨p.row, p.col⟩ = P at *
    have hf9 := set_two HF8.out (.int .i64 P.row) (.int .i64 P.col)
    have hb9 : Below w4.heap.size w4 ((w8.setCell ⟨g, 0, none⟩ (.int .i64 P.row)).setCell ⟨g, 1, none⟩ (.int .i64 P.col)) := (HB8.out.setCell (p := ⟨g, 0, none⟩) hgz _).setCell (p := ⟨g, 1, none⟩) hgz _
    clear q0 q1 f0 f1
    generalize ((w8.setCell ⟨g, 0, none⟩ (.int .i64 P.row)).setCell ⟨g, 1, none⟩ (.int .i64 P.col)) = W9 at *
    have HF9 := Lib.hid hf9
    have HB9 := Lib.hid hb9
    clear hf9 hb9
    have hK9 : Keeps F w W9 := HK2.out.trans (Keeps.of_below (Below.later HB4.out HB9.out HB4.out.size) : Keeps F w2 _) (fun k hk => .inl hk)
    have hG9 : Grid W9 gp F D1 := HG4.out.below HB9.out
    obtain ⟨y1, y2, y3⟩ := HGW.out _ HB9.out
    have HT6 := Lib.hid y3
    obtain ⟨z0, z1, z2, f0, f1, f2⟩ := row3 y3
    obtain ⟨v0, v1, _⟩ := row2 HF9.out
    have HK9 := Lib.hid hK9
    have HG9 := Lib.hid hG9
    clear hK9 hG9 y1 y2 y3
    go_wp2_with fail
    obtain ⟨r0, r1, r2, _⟩ := row3 (set_three HT6.out (.int .i64 P.row) (.int .i64 P.col) (.bool false))
    refine bodyPost_ret (v := .tuple #[.agg #[.int .i64 P.row, .int .i64 P.col, .bool false], .int .i64 0]) (by simp [results, Tryz.results106, go_sem, r0, r1, r2]) rfl ⟨by rw [← HOE.out]; rw [HGP.out]; try (dsimp only; rw [hP]), GridTo.box3 (b := w.heap.size + 1 + 1) (by omega) F HG9.out (fun k hk => .inl hk) (fun hk => by have := HLT.out _ hk; omega) HK9.out _ _ _⟩
  · rename_i q'
    simp only [Option.isSome] at HCF
    generalize hP : openP D1 (some q') = P at *
    go_upto_region 13 with (go_at_call 100; refine HCF.out.mono ?_; rintro e w6 ⟨rfl, hb6⟩; clear q0 q1; have HF6 := Lib.hid ((hb6.block _ (block_lt HF5.out)).trans HF5.out); obtain ⟨q0, q1, f0, f1⟩ := row2 HF6.out; have HB6 := Lib.hid (Below.later HWE.out hb6 HWE.out.size); clear hb6)
    have hf9 := set_two HF6.out (.int .i64 P.row) (.int .i64 P.col)
    have hb9 : Below w4.heap.size w4 ((w6.setCell ⟨g, 0, none⟩ (.int .i64 P.row)).setCell ⟨g, 1, none⟩ (.int .i64 P.col)) := (HB6.out.setCell (p := ⟨g, 0, none⟩) hgz _).setCell (p := ⟨g, 1, none⟩) hgz _
    clear q0 q1 f0 f1
    generalize ((w6.setCell ⟨g, 0, none⟩ (.int .i64 P.row)).setCell ⟨g, 1, none⟩ (.int .i64 P.col)) = W9 at *
    have HF9 := Lib.hid hf9
    have HB9 := Lib.hid hb9
    clear hf9 hb9
    have hK9 : Keeps F w W9 := HK2.out.trans (Keeps.of_below (Below.later HB4.out HB9.out HB4.out.size) : Keeps F w2 _) (fun k hk => .inl hk)
    have hG9 : Grid W9 gp F D1 := HG4.out.below HB9.out
    obtain ⟨y1, y2, y3⟩ := HGW.out _ HB9.out
    have HT6 := Lib.hid y3
    obtain ⟨z0, z1, z2, f0, f1, f2⟩ := row3 y3
    obtain ⟨v0, v1, _⟩ := row2 HF9.out
    have HK9 := Lib.hid hK9
    have HG9 := Lib.hid hG9
    clear hK9 hG9 y1 y2 y3
    go_wp2_with fail
    obtain ⟨r0, r1, r2, _⟩ := row3 (set_three HT6.out (.int .i64 P.row) (.int .i64 P.col) (.bool false))
    refine bodyPost_ret (v := .tuple #[.agg #[.int .i64 P.row, .int .i64 P.col, .bool false], .int .i64 0]) (by simp [results, Tryz.results106, go_sem, r0, r1, r2]) rfl ⟨by rw [← HOE.out]; rw [HGP.out]; try (dsimp only; rw [hP]), GridTo.box3 (b := w.heap.size + 1 + 1) (by omega) F HG9.out (fun k hk => .inl hk) (fun hk => by have := HLT.out _ hk; omega) HK9.out _ _ _⟩
  )
def guardQ (D : Vz.Gd) (c : Vz.Cl) (p : Vz.Ps) (q : Nat) : Vz.Ps := guardP (guardD D c q) p (openN (guardD D c q) ⟨((nextN D q / D.C : Nat) : Int), ((nextN D q % D.C : Nat) : Int)⟩ 1)
theorem guardQ_in (D : Vz.Gd) (c : Vz.Cl) (p : Vz.Ps) (q : Nat) (h : D.may) : (guardQ D c p q).inS D.R D.C := by
 unfold guardQ
 cases ho : openN (guardD D c q) ⟨((nextN D q / D.C : Nat) : Int), ((nextN D q % D.C : Nat) : Int)⟩ 1 with
 | none => exact Vz.nearP_in D.R D.C p (Vz.Gd.may_mayS h)
 | some q' =>
   have := openP_in (guardD D c q) ⟨((nextN D q / D.C : Nat) : Int), ((nextN D q % D.C : Nat) : Int)⟩ 1 h
   rw [ho] at this
   exact this
def putGS (S : Vz.Sr) (c : Vz.Cl) : Vz.Sr := match openN S.D S.pl.at_ 1 with
 | none => S
 | some q => { S with D := guardD S.D c q, pl := ⟨guardQ S.D c S.pl.at_ q, false⟩ }
theorem scr_putg_some (sp : Nat) (F : Nat → Prop) (S : Vz.Sr) (c : Vz.Cl) (wrap : Int) (q : Nat) (w : World) (h : Scr w sp F S) (ho : openN S.D S.pl.at_ 1 = some q) : Calls Tryz.prog 82 #[.pointer (some ⟨sp, 0, none⟩), .agg #[.int .i32 c.g, .int .i64 c.a, .bool c.gd, .int .i64 c.m], .int .i64 wrap, .bool true] w fun e w' => e = .returned (.tuple #[]) ∧ ScrTo w w' sp F { S with D := guardD S.D c q, pl := ⟨guardQ S.D c S.pl.at_ q, false⟩ } := by
 obtain ⟨gp, tp, mb, FG, hA, hF, HC, hlt⟩ := h.held
 have HIN : Hid ((guardQ S.D c S.pl.at_ q).inS S.D.R S.D.C) := guardQ_in _ _ _ _ hA.grid.may
 have HIP := Lib.hid (fun W (hb : Below w.heap.size w W) => guard_some gp FG S.D S.pl.at_ S.pl.pend c q W (hA.grid.below hb) ho)
 have HGB := Lib.hid hA.blk.lt
 have HA := Lib.hid (fun W (hb : Below w.heap.size w W) => hA.below hb)
 have HF := Lib.hid hF
 have HLT := Lib.hid h.lt
 have HFS : Hid (F sp) := (hF sp).2 (.inl rfl)
 have HR : Hid ((guardD S.D c q).R = S.D.R) := rfl
 have HCC : Hid ((guardD S.D c q).C = S.D.C) := rfl
 have HQ : Hid (guardQ S.D c S.pl.at_ q = guardP (guardD S.D c q) S.pl.at_ (openN (guardD S.D c q) ⟨((nextN S.D q / S.D.C : Nat) : Int), ((nextN S.D q % S.D.C : Nat) : Int)⟩ 1)) := rfl
 rw [← HQ.out] at HIP
 clear hA hF h ho HQ
 generalize guardQ S.D c S.pl.at_ q = pq at *
 generalize guardD S.D c q = D' at *
 have HC1 := Lib.hid (HC.out _ (below1 w (.cells (cellB c) 56)))
 have HB : Hid (Below w.heap.size w ((w.alloc (.cells (cellB c) 56)).alloc (.cells #[.int .i64 S.pl.at_.row, .int .i64 S.pl.at_.col, .bool S.pl.pend] 76)).drew) := (Grows.below (((Grows.refl _).alloc _).alloc _)).drew
 obtain ⟨hn0, hn1⟩ := box2 (Below.refl ((w.alloc (.cells (cellB c) 56)).alloc (.cells #[.int .i64 S.pl.at_.row, .int .i64 S.pl.at_.col, .bool S.pl.pend] 76)).heap.size _)
 have HN0 := Lib.hid hn0
 have HN1 := Lib.hid hn1.1
 clear hn0 hn1
 unfold cellB at HB HC1 HN0 HN1
 obtain ⟨c0, c1, c2, c3, c4, f0, f1, f2⟩ := HC1.out
 clear HC1
 go_enter Tryz.func82, Tryz.ntmps82
 go_upto_region 4 with fail
 clear c0 c1 c2 c3 c4 f0 f1 f2
 refine wp_region_noPanic ?_
 refine wp_region_k (S := fun W : World => Below w.heap.size w W ∧ W.heap[w.heap.size]? = some (.cells #[.int .i32 c.g, .int .i64 c.a, .bool c.gd, .int .i64 c.m] 56 (0, 0))) 9 (by kernel_rfl) (⟨HB.out, HN0.out⟩) (fun hHeld => ?_)
 refine kSK 0 hHeld ?_
 refine kSK 1 hHeld ?_
 refine kSK 2 hHeld ?_
 refine kTK (v := ?_) 3 [] hHeld ?y4 ?_
 case y4 => (intro W hSw; obtain ⟨c0, c1, c2, c3, c4, _⟩ := HC.out _ hSw.1; obtain ⟨x0, x1, x2, x3, _⟩ := row4 hSw.2; go_simp; try with_reducible rfl)
 refine kSK 4 hHeld ?_
 try refine kNK ?_
 refine kSK 5 hHeld ?_
 refine kSK 6 hHeld ?_
 refine kTK (v := ?_) 7 [] hHeld ?y8 ?_
 case y8 => (intro W hSw; obtain ⟨c0, c1, c2, c3, c4, _⟩ := HC.out _ hSw.1; obtain ⟨x0, x1, x2, x3, _⟩ := row4 hSw.2; go_simp; try with_reducible rfl)
 refine kTK (v := ?_) 8 [] hHeld ?y9 ?_
 case y9 => (intro W hSw; obtain ⟨c0, c1, c2, c3, c4, _⟩ := HC.out _ hSw.1; obtain ⟨x0, x1, x2, x3, _⟩ := row4 hSw.2; go_simp; try with_reducible rfl)
 try refine kNK ?_
 refine kPK 9 fun KQ hKQ => ?_
 go_simp
 go_at_call 106
 refine (HIP.out _ HB.out).mono ?_
 rintro e w6 ⟨rfl, hg⟩
 have HG := Lib.hid hg
 have HX1 : Hid (w6.heap[w.heap.size + 1]? = some (.cells #[.int .i64 S.pl.at_.row, .int .i64 S.pl.at_.col, .bool S.pl.pend] 76 (0, 0))) := (hg.out (block_lt HN1.out) (fun hk => by have := HLT.out _ ((HF.out _).2 (.inr (.inr (.inr hk)))); omega)).trans HN1.out
 clear hg
 go_wp2_with fail
 refine hKQ.out _ _ ?_
 clear hKQ KQ
 try refine kNK ?_
 obtain ⟨x0, x1, x2, f0, f1, f2⟩ := row3 HX1.out
 refine kBK 10 ?_
 refine kBK 11 ?_
 refine kBK 12 ?_
 try refine kNK ?_
 refine kPK 13 fun KQ hKQ => ?_
 go_simp
 refine hKQ.out _ _ ?_
 clear hKQ KQ
 try refine kNK ?_
 refine kBK 14 ?_
 try refine kNK ?_
 refine wpAnyK_done (by kernel_rfl) ?_ _
 refine NoPanic.normal ?_
 have HFIN : Hid _ := Scr.closed (w7 := ((w6.setCell ⟨w.heap.size + 1, 0, none⟩ (.int .i64 pq.row)).setCell ⟨w.heap.size + 1, 1, none⟩ (.int .i64 pq.col)).setCell ⟨w.heap.size + 1, 2, none⟩ (.bool false)) (HA.out _ HB.out) HF.out HLT.out HGB.out HB.out HG.out HR.out HCC.out (w.heap.size + 1) (Nat.le_succ _) (block_lt HN1.out) (fun k hk => set_three_other _ _ _ _ _ hk) (by simp only [World.size_setCell]) ⟨rfl, rfl, rfl⟩
 obtain ⟨FG', hA7, hF7, hK7⟩ := HFIN.out
 obtain ⟨c0, c1, c2, c3, c4, e0, e1, e2, _⟩ := row5' hA7.box
 obtain ⟨y0, y1, y2, _⟩ := row3 (set_three HX1.out (.int .i64 pq.row) (.int .i64 pq.col) (.bool false))
 have HE : Hid (ScrTo w _ sp F { D := D', pl := ⟨pq, false⟩, T := S.T }) := Scr.placed hA7 hF7 hK7 HFS.out ⟨pq, false⟩ (by show pq.inS D'.R D'.C; rw [HR.out, HCC.out]; exact HIN.out)
 clear HFIN hA7 hF7 hK7 x0 x1 x2 f0 f1 f2
 go_wp2_with fail
 go_end0
 exact ⟨rfl, HE.out⟩
theorem scr_putg_none (sp : Nat) (F : Nat → Prop) (S : Vz.Sr) (c : Vz.Cl) (wrap : Int) (w : World) (h : Scr w sp F S) (ho : openN S.D S.pl.at_ 1 = none) : Calls Tryz.prog 82 #[.pointer (some ⟨sp, 0, none⟩), .agg #[.int .i32 c.g, .int .i64 c.a, .bool c.gd, .int .i64 c.m], .int .i64 wrap, .bool true] w fun e w' => e = .returned (.tuple #[]) ∧ ScrTo w w' sp F S := by
 obtain ⟨gp, tp, mb, FG, hA, hF, HC, hlt⟩ := h.held
 have HIP := Lib.hid (fun W (hb : Below w.heap.size w W) => guard_none gp FG S.D S.pl.at_ S.pl.pend c W (hA.grid.below hb) ho)
 have HS := Lib.hid h
 clear hA hF h ho
 have HC1 := Lib.hid (HC.out _ (below1 w (.cells (cellB c) 56)))
 have HB : Hid (Below w.heap.size w ((w.alloc (.cells (cellB c) 56)).alloc (.cells #[.int .i64 S.pl.at_.row, .int .i64 S.pl.at_.col, .bool S.pl.pend] 76)).drew) := (Grows.below (((Grows.refl _).alloc _).alloc _)).drew
 obtain ⟨hn0, hn1⟩ := box2 (Below.refl ((w.alloc (.cells (cellB c) 56)).alloc (.cells #[.int .i64 S.pl.at_.row, .int .i64 S.pl.at_.col, .bool S.pl.pend] 76)).heap.size _)
 have HN0 := Lib.hid hn0
 have HN1 := Lib.hid hn1.1
 clear hn0 hn1
 unfold cellB at HB HC1 HN0 HN1
 obtain ⟨c0, c1, c2, c3, c4, f0, f1, f2⟩ := HC1.out
 clear HC1
 go_enter Tryz.func82, Tryz.ntmps82
 go_upto_region 4 with fail
 clear c0 c1 c2 c3 c4 f0 f1 f2
 refine wp_region_noPanic ?_
 refine wp_region_k (S := fun W : World => Below w.heap.size w W ∧ W.heap[w.heap.size]? = some (.cells #[.int .i32 c.g, .int .i64 c.a, .bool c.gd, .int .i64 c.m] 56 (0, 0))) 9 (by kernel_rfl) (⟨HB.out, HN0.out⟩) (fun hHeld => ?_)
 refine kSK 0 hHeld ?_
 refine kSK 1 hHeld ?_
 refine kSK 2 hHeld ?_
 refine kTK (v := ?_) 3 [] hHeld ?y4 ?_
 case y4 => (intro W hSw; obtain ⟨c0, c1, c2, c3, c4, _⟩ := HC.out _ hSw.1; obtain ⟨x0, x1, x2, x3, _⟩ := row4 hSw.2; go_simp; try with_reducible rfl)
 refine kSK 4 hHeld ?_
 try refine kNK ?_
 refine kSK 5 hHeld ?_
 refine kSK 6 hHeld ?_
 refine kTK (v := ?_) 7 [] hHeld ?y8 ?_
 case y8 => (intro W hSw; obtain ⟨c0, c1, c2, c3, c4, _⟩ := HC.out _ hSw.1; obtain ⟨x0, x1, x2, x3, _⟩ := row4 hSw.2; go_simp; try with_reducible rfl)
 refine kTK (v := ?_) 8 [] hHeld ?y9 ?_
 case y9 => (intro W hSw; obtain ⟨c0, c1, c2, c3, c4, _⟩ := HC.out _ hSw.1; obtain ⟨x0, x1, x2, x3, _⟩ := row4 hSw.2; go_simp; try with_reducible rfl)
 try refine kNK ?_
 refine kPK 9 fun KQ hKQ => ?_
 go_simp
 go_at_call 106
 refine (HIP.out _ HB.out).mono ?_
 rintro e w6 ⟨rfl, hg⟩
 have HX1 := Lib.hid ((hg.block _ (block_lt HN1.out)).trans HN1.out)
 have HB6 := Lib.hid (Below.later HB.out hg HB.out.size)
 clear hg
 go_wp2_with fail
 refine hKQ.out _ _ ?_
 clear hKQ KQ
 try refine kNK ?_
 obtain ⟨x0, x1, x2, f0, f1, f2⟩ := row3 HX1.out
 refine kBK 10 ?_
 refine kBK 11 ?_
 refine kBK 12 ?_
 try refine kNK ?_
 refine kPK 13 fun KQ hKQ => ?_
 go_simp
 refine hKQ.out _ _ ?_
 clear hKQ KQ
 try refine kNK ?_
 refine kBK 14 ?_
 try refine kNK ?_
 refine wpAnyK_done (by kernel_rfl) ?_ _
 refine NoPanic.normal ?_
 go_wp2_with fail
 go_end0
 exact ⟨rfl, (ScrTo.refl HS.out).later (((HB6.out.setCell (p := ⟨w.heap.size + 1, 0, none⟩) (Nat.le_succ _) _).setCell (p := ⟨w.heap.size + 1, 1, none⟩) (Nat.le_succ _) _).setCell (p := ⟨w.heap.size + 1, 2, none⟩) (Nat.le_succ _) _)⟩
theorem scr_putg (sp : Nat) (F : Nat → Prop) (S : Vz.Sr) (c : Vz.Cl) (wrap : Int) (w : World) (h : Scr w sp F S) : Calls Tryz.prog 82 #[.pointer (some ⟨sp, 0, none⟩), .agg #[.int .i32 c.g, .int .i64 c.a, .bool c.gd, .int .i64 c.m], .int .i64 wrap, .bool true] w fun e w' => e = .returned (.tuple #[]) ∧ ScrTo w w' sp F (putGS S c) := by
 unfold putGS
 cases ho : openN S.D S.pl.at_ 1 with
 | none => exact scr_putg_none sp F S c wrap w h ho
 | some q => exact scr_putg_some sp F S c wrap q w h ho
def freeO (S : Vz.Sr) (o : Option Nat) : Vz.Sr := match o with
 | none => S
 | some q => { S with pl := ⟨Vz.nearP S.D.R S.D.C (openP S.D (some q)), false⟩ }
def freeS (S : Vz.Sr) (by_ : Int) : Vz.Sr := freeO S (openN S.D S.pl.at_ by_)
theorem scr_free_on (sp : Nat) (F : Nat → Prop) (S : Vz.Sr) (w : World) (h : Scr w sp F S) : Calls Tryz.prog 76 #[.pointer (some ⟨sp, 0, none⟩), .bool false] w fun e w' => e = .returned (.bool (openN S.D S.pl.at_ (1)).isSome) ∧ ScrTo w w' sp F (freeS S (1)) := by
 obtain ⟨gp, tp, mb, FG, hA, hF, HC, hlt⟩ := h.held
 have HFR := Lib.hid (fun W (hb : Below w.heap.size w W) => free_ok gp FG S.D S.pl.at_ W (hA.grid.below hb))
 have HMV := Lib.hid (fun W (hb : Below w.heap.size w W) p => scr_move sp F S p W (h.below hb))
 have HS := Lib.hid h
 obtain ⟨o, hoe⟩ : ∃ o, o = openN S.D S.pl.at_ (1) := ⟨_, rfl⟩
 unfold freeS
 rw [← hoe] at HFR ⊢
 clear hA hF h hoe
 go_enter Tryz.func76, Tryz.ntmps76
 go_upto_region 6 with fail
 refine wp_region_noPanic ?_
 refine wp_region_k (S := fun W' : World => Below w.heap.size w W') 15 (by kernel_rfl) ((Below.refl _ _).drew) (fun hHeld => ?_)
 refine kSK 0 hHeld ?_
 refine kSK 1 hHeld ?_
 refine kSK 2 hHeld ?_
 refine kSK 3 hHeld ?_
 refine kTK (v := ?_) 4 [] hHeld ?y5 ?_
 case y5 => (intro W hSw; obtain ⟨c0, c1, c2, c3, c4, _⟩ := HC.out _ hSw; go_simp; try with_reducible rfl)
 try refine kNK ?_
 refine kSK 5 hHeld ?_
 refine kSK 6 hHeld ?_
 refine kSK 7 hHeld ?_
 refine kSK 8 hHeld ?_
 refine kTK (v := ?_) 9 [] hHeld ?y10 ?_
 case y10 => (intro W hSw; obtain ⟨c0, c1, c2, c3, c4, _⟩ := HC.out _ hSw; go_simp; try with_reducible rfl)
 try refine kNK ?_
 refine wpAnyK_ready (rs := [10, 14]) (by kernel_rfl) (by simp) ?_
 refine AllReadyK.cons rfl (fun KQ hKQ => ?_) (AllReadyK.cons rfl (fun KQ hKQ => ?_) AllReadyK.nil)
 focus
  obtain ⟨Wc, hWc⟩ : ∃ Wc, Wc = Below.world hHeld := ⟨_, rfl⟩
  simp only [Below.world] at hWc
  rw [← hWc] at hHeld ⊢
  try rw [← hWc] at HF
  clear hWc
  go_simp
  go_at_call 100
  refine (HFR.out _ hHeld).mono ?_
  rintro e wa ⟨rfl, hba⟩
  try (have HFn := Lib.hid ((hba.block _ (block_lt HF.out)).trans HF.out); clear HF; have HF := HFn; clear HFn)
  have hHn := Below.later hHeld hba hHeld.size
  clear hba
  go_wp2_with fail
  refine hKQ.out _ _ (hHn) ?_
  clear hHeld hKQ KQ
  intro hHeld
  try refine kNK ?_
  refine kSK 11 hHeld ?_
  refine kSK 12 hHeld ?_
  refine kSK 13 hHeld ?_
  try refine kNK ?_
  refine kOK 14 fun KQ hKQ => ?_
  obtain ⟨Wc, hWc⟩ : ∃ Wc, Wc = Below.world hHeld := ⟨_, rfl⟩
  simp only [Below.world] at hWc
  rw [← hWc] at hHeld ⊢
  try rw [← hWc] at HF
  clear hWc
  go_simp
  have hnew := heap_alloc_new Wc (.cells #[.int .i64 0, .int .i64 0] 36)
  have hbn := below1 Wc (.cells #[.int .i64 0, .int .i64 0] 36)
  have hnz : w.heap.size ≤ Wc.heap.size := hHeld.size
  have HF := Lib.hid hnew
  have hHn := Below.later hHeld hbn hHeld.size
  clear hnew hbn
  generalize Wc.alloc (.cells #[.int .i64 0, .int .i64 0] 36) = Wd at *
  generalize Wc.heap.size = g at *
  refine hKQ.out _ _ (hHn) ?_
  clear hHeld hKQ KQ
  intro hHeld
  try refine kNK ?_
  refine kPK 15 fun KQ hKQ => ?_
  obtain ⟨Wc, hWc⟩ : ∃ Wc, Wc = Below.world hHeld := ⟨_, rfl⟩
  simp only [Below.world] at hWc
  rw [← hWc] at hHeld ⊢
  try rw [← hWc] at HF
  clear hWc
  obtain ⟨d0, d1, g0, g1⟩ := row2 HF.out
  go_simp
  refine hKQ.out _ _ ?_
  clear hKQ KQ
  try refine kNK ?_
  refine kBK 16 ?_
  try refine kNK ?_
  refine wpAnyK_done (by kernel_rfl) ?_ _
  refine NoPanic.normal ?_
 rotate_left 1
 focus
  obtain ⟨Wc, hWc⟩ : ∃ Wc, Wc = Below.world hHeld := ⟨_, rfl⟩
  simp only [Below.world] at hWc
  rw [← hWc] at hHeld ⊢
  try rw [← hWc] at HF
  clear hWc
  go_simp
  have hnew := heap_alloc_new Wc (.cells #[.int .i64 0, .int .i64 0] 36)
  have hbn := below1 Wc (.cells #[.int .i64 0, .int .i64 0] 36)
  have hnz : w.heap.size ≤ Wc.heap.size := hHeld.size
  have HF := Lib.hid hnew
  have hHn := Below.later hHeld hbn hHeld.size
  clear hnew hbn
  generalize Wc.alloc (.cells #[.int .i64 0, .int .i64 0] 36) = Wd at *
  generalize Wc.heap.size = g at *
  refine hKQ.out _ _ (hHn) ?_
  clear hHeld hKQ KQ
  intro hHeld
  try refine kNK ?_
  refine kOK 10 fun KQ hKQ => ?_
  obtain ⟨Wc, hWc⟩ : ∃ Wc, Wc = Below.world hHeld := ⟨_, rfl⟩
  simp only [Below.world] at hWc
  rw [← hWc] at hHeld ⊢
  try rw [← hWc] at HF
  clear hWc
  go_simp
  go_at_call 100
  refine (HFR.out _ hHeld).mono ?_
  rintro e wa ⟨rfl, hba⟩
  try (have HFn := Lib.hid ((hba.block _ (block_lt HF.out)).trans HF.out); clear HF; have HF := HFn; clear HFn)
  have hHn := Below.later hHeld hba hHeld.size
  clear hba
  go_wp2_with fail
  refine hKQ.out _ _ (hHn) ?_
  clear hHeld hKQ KQ
  intro hHeld
  try refine kNK ?_
  refine kSK 11 hHeld ?_
  refine kSK 12 hHeld ?_
  refine kSK 13 hHeld ?_
  try refine kNK ?_
  refine kPK 15 fun KQ hKQ => ?_
  obtain ⟨Wc, hWc⟩ : ∃ Wc, Wc = Below.world hHeld := ⟨_, rfl⟩
  simp only [Below.world] at hWc
  rw [← hWc] at hHeld ⊢
  try rw [← hWc] at HF
  clear hWc
  obtain ⟨d0, d1, g0, g1⟩ := row2 HF.out
  go_simp
  refine hKQ.out _ _ ?_
  clear hKQ KQ
  try refine kNK ?_
  refine kBK 16 ?_
  try refine kNK ?_
  refine wpAnyK_done (by kernel_rfl) ?_ _
  refine NoPanic.normal ?_
 rotate_left 1
 all_goals (
  have hgz : w.heap.size ≤ g := by first | exact hnz | omega
  generalize hP : openP S.D o = P at *
  have hWE : Below w.heap.size w ((Wc.setCell ⟨g, 0, none⟩ (.int .i64 P.row)).setCell ⟨g, 1, none⟩ (.int .i64 P.col)) := (hHeld.setCell (p := ⟨g, 0, none⟩) hgz _).setCell (p := ⟨g, 1, none⟩) hgz _
  have hf5 := set_two HF.out (.int .i64 P.row) (.int .i64 P.col)
  clear HF hHeld d0 d1 g0 g1
  generalize ((Wc.setCell ⟨g, 0, none⟩ (.int .i64 P.row)).setCell ⟨g, 1, none⟩ (.int .i64 P.col)) = We at *
  obtain ⟨q0, q1, _⟩ := row2 hf5
  have HMC := Lib.hid (HMV.out We hWE P)
  have HWE := Lib.hid hWE
  clear hf5 hWE
  cases o with
  | none =>
    simp only [Option.isSome]
    go_wp2_with fail
    go_ret
    exact ⟨rfl, (ScrTo.refl HS.out).later HWE.out⟩
  | some q =>
    simp only [Option.isSome]
    go_wp2_with (go_at_call 59; refine HMC.out.mono ?_; rintro e w6 ⟨rfl, hg⟩; have HG := Lib.hid hg; clear hg)
    go_ret
    exact ⟨rfl, by unfold freeO; dsimp only; rw [hP]; exact ScrTo.after HWE.out HG.out⟩)
theorem scr_free_back (sp : Nat) (F : Nat → Prop) (S : Vz.Sr) (w : World) (h : Scr w sp F S) : Calls Tryz.prog 76 #[.pointer (some ⟨sp, 0, none⟩), .bool true] w fun e w' => e = .returned (.bool (openN S.D S.pl.at_ (-1)).isSome) ∧ ScrTo w w' sp F (freeS S (-1)) := by
 obtain ⟨gp, tp, mb, FG, hA, hF, HC, hlt⟩ := h.held
 have HFR := Lib.hid (fun W (hb : Below w.heap.size w W) => last_ok gp FG S.D S.pl.at_ W (hA.grid.below hb))
 have HMV := Lib.hid (fun W (hb : Below w.heap.size w W) p => scr_move sp F S p W (h.below hb))
 have HS := Lib.hid h
 obtain ⟨o, hoe⟩ : ∃ o, o = openN S.D S.pl.at_ (-1) := ⟨_, rfl⟩
 unfold freeS
 rw [← hoe] at HFR ⊢
 clear hA hF h hoe
 go_enter Tryz.func76, Tryz.ntmps76
 go_upto_region 6 with fail
 refine wp_region_noPanic ?_
 refine wp_region_k (S := fun W' : World => Below w.heap.size w W') 15 (by kernel_rfl) ((Below.refl _ _).drew) (fun hHeld => ?_)
 refine kSK 0 hHeld ?_
 refine kSK 1 hHeld ?_
 refine kSK 2 hHeld ?_
 refine kSK 3 hHeld ?_
 refine kTK (v := ?_) 4 [] hHeld ?y5 ?_
 case y5 => (intro W hSw; obtain ⟨c0, c1, c2, c3, c4, _⟩ := HC.out _ hSw; go_simp; try with_reducible rfl)
 try refine kNK ?_
 refine kSK 5 hHeld ?_
 refine kSK 6 hHeld ?_
 refine kSK 7 hHeld ?_
 refine kSK 8 hHeld ?_
 refine kTK (v := ?_) 9 [] hHeld ?y10 ?_
 case y10 => (intro W hSw; obtain ⟨c0, c1, c2, c3, c4, _⟩ := HC.out _ hSw; go_simp; try with_reducible rfl)
 try refine kNK ?_
 refine wpAnyK_ready (rs := [10, 14]) (by kernel_rfl) (by simp) ?_
 refine AllReadyK.cons rfl (fun KQ hKQ => ?_) (AllReadyK.cons rfl (fun KQ hKQ => ?_) AllReadyK.nil)
 focus
  obtain ⟨Wc, hWc⟩ : ∃ Wc, Wc = Below.world hHeld := ⟨_, rfl⟩
  simp only [Below.world] at hWc
  rw [← hWc] at hHeld ⊢
  try rw [← hWc] at HF
  clear hWc
  go_simp
  go_at_call 101
  refine (HFR.out _ hHeld).mono ?_
  rintro e wa ⟨rfl, hba⟩
  try (have HFn := Lib.hid ((hba.block _ (block_lt HF.out)).trans HF.out); clear HF; have HF := HFn; clear HFn)
  have hHn := Below.later hHeld hba hHeld.size
  clear hba
  go_wp2_with fail
  refine hKQ.out _ _ (hHn) ?_
  clear hHeld hKQ KQ
  intro hHeld
  try refine kNK ?_
  refine kSK 11 hHeld ?_
  refine kSK 12 hHeld ?_
  refine kSK 13 hHeld ?_
  try refine kNK ?_
  refine kOK 14 fun KQ hKQ => ?_
  obtain ⟨Wc, hWc⟩ : ∃ Wc, Wc = Below.world hHeld := ⟨_, rfl⟩
  simp only [Below.world] at hWc
  rw [← hWc] at hHeld ⊢
  try rw [← hWc] at HF
  clear hWc
  go_simp
  have hnew := heap_alloc_new Wc (.cells #[.int .i64 0, .int .i64 0] 36)
  have hbn := below1 Wc (.cells #[.int .i64 0, .int .i64 0] 36)
  have hnz : w.heap.size ≤ Wc.heap.size := hHeld.size
  have HF := Lib.hid hnew
  have hHn := Below.later hHeld hbn hHeld.size
  clear hnew hbn
  generalize Wc.alloc (.cells #[.int .i64 0, .int .i64 0] 36) = Wd at *
  generalize Wc.heap.size = g at *
  refine hKQ.out _ _ (hHn) ?_
  clear hHeld hKQ KQ
  intro hHeld
  try refine kNK ?_
  refine kPK 15 fun KQ hKQ => ?_
  obtain ⟨Wc, hWc⟩ : ∃ Wc, Wc = Below.world hHeld := ⟨_, rfl⟩
  simp only [Below.world] at hWc
  rw [← hWc] at hHeld ⊢
  try rw [← hWc] at HF
  clear hWc
  obtain ⟨d0, d1, g0, g1⟩ := row2 HF.out
  go_simp
  refine hKQ.out _ _ ?_
  clear hKQ KQ
  try refine kNK ?_
  refine kBK 16 ?_
  try refine kNK ?_
  refine wpAnyK_done (by kernel_rfl) ?_ _
  refine NoPanic.normal ?_
 rotate_left 1
 focus
  obtain ⟨Wc, hWc⟩ : ∃ Wc, Wc = Below.world hHeld := ⟨_, rfl⟩
  simp only [Below.world] at hWc
  rw [← hWc] at hHeld ⊢
  try rw [← hWc] at HF
  clear hWc
  go_simp
  have hnew := heap_alloc_new Wc (.cells #[.int .i64 0, .int .i64 0] 36)
  have hbn := below1 Wc (.cells #[.int .i64 0, .int .i64 0] 36)
  have hnz : w.heap.size ≤ Wc.heap.size := hHeld.size
  have HF := Lib.hid hnew
  have hHn := Below.later hHeld hbn hHeld.size
  clear hnew hbn
  generalize Wc.alloc (.cells #[.int .i64 0, .int .i64 0] 36) = Wd at *
  generalize Wc.heap.size = g at *
  refine hKQ.out _ _ (hHn) ?_
  clear hHeld hKQ KQ
  intro hHeld
  try refine kNK ?_
  refine kOK 10 fun KQ hKQ => ?_
  obtain ⟨Wc, hWc⟩ : ∃ Wc, Wc = Below.world hHeld := ⟨_, rfl⟩
  simp only [Below.world] at hWc
  rw [← hWc] at hHeld ⊢
  try rw [← hWc] at HF
  clear hWc
  go_simp
  go_at_call 101
  refine (HFR.out _ hHeld).mono ?_
  rintro e wa ⟨rfl, hba⟩
  try (have HFn := Lib.hid ((hba.block _ (block_lt HF.out)).trans HF.out); clear HF; have HF := HFn; clear HFn)
  have hHn := Below.later hHeld hba hHeld.size
  clear hba
  go_wp2_with fail
  refine hKQ.out _ _ (hHn) ?_
  clear hHeld hKQ KQ
  intro hHeld
  try refine kNK ?_
  refine kSK 11 hHeld ?_
  refine kSK 12 hHeld ?_
  refine kSK 13 hHeld ?_
  try refine kNK ?_
  refine kPK 15 fun KQ hKQ => ?_
  obtain ⟨Wc, hWc⟩ : ∃ Wc, Wc = Below.world hHeld := ⟨_, rfl⟩
  simp only [Below.world] at hWc
  rw [← hWc] at hHeld ⊢
  try rw [← hWc] at HF
  clear hWc
  obtain ⟨d0, d1, g0, g1⟩ := row2 HF.out
  go_simp
  refine hKQ.out _ _ ?_
  clear hKQ KQ
  try refine kNK ?_
  refine kBK 16 ?_
  try refine kNK ?_
  refine wpAnyK_done (by kernel_rfl) ?_ _
  refine NoPanic.normal ?_
 rotate_left 1
 all_goals (
  have hgz : w.heap.size ≤ g := by first | exact hnz | omega
  generalize hP : openP S.D o = P at *
  have hWE : Below w.heap.size w ((Wc.setCell ⟨g, 0, none⟩ (.int .i64 P.row)).setCell ⟨g, 1, none⟩ (.int .i64 P.col)) := (hHeld.setCell (p := ⟨g, 0, none⟩) hgz _).setCell (p := ⟨g, 1, none⟩) hgz _
  have hf5 := set_two HF.out (.int .i64 P.row) (.int .i64 P.col)
  clear HF hHeld d0 d1 g0 g1
  generalize ((Wc.setCell ⟨g, 0, none⟩ (.int .i64 P.row)).setCell ⟨g, 1, none⟩ (.int .i64 P.col)) = We at *
  obtain ⟨q0, q1, _⟩ := row2 hf5
  have HMC := Lib.hid (HMV.out We hWE P)
  have HWE := Lib.hid hWE
  clear hf5 hWE
  cases o with
  | none =>
    simp only [Option.isSome]
    go_wp2_with fail
    go_ret
    exact ⟨rfl, (ScrTo.refl HS.out).later HWE.out⟩
  | some q =>
    simp only [Option.isSome]
    go_wp2_with (go_at_call 59; refine HMC.out.mono ?_; rintro e w6 ⟨rfl, hg⟩; have HG := Lib.hid hg; clear hg)
    go_ret
    exact ⟨rfl, by unfold freeO; dsimp only; rw [hP]; exact ScrTo.after HWE.out HG.out⟩)
theorem scr_free (sp : Nat) (F : Nat → Prop) (S : Vz.Sr) (b : Bool) (w : World) (h : Scr w sp F S) : Calls Tryz.prog 76 #[.pointer (some ⟨sp, 0, none⟩), .bool b] w fun e w' => e = .returned (.bool (openN S.D S.pl.at_ (if b = true then -1 else 1)).isSome) ∧ ScrTo w w' sp F (freeS S (if b = true then -1 else 1)) := by
 cases b
 · exact scr_free_on sp F S w h
 · exact scr_free_back sp F S w h
def putS (S : Vz.Sr) (c : Vz.Cl) (wrap : Int) : Vz.Sr := { S with D := (putD S.D S.pl c wrap Vz.Cl.blank).1, pl := (putD S.D S.pl c wrap Vz.Cl.blank).2 }
theorem NewScr.next {w w1 w2 : World} {sp : Nat} {S S' : Vz.Sr} (h : NewScr w w1 sp S) (h' : ∀ F, Scr w1 sp F S → ScrTo w1 w2 sp F S') : NewScr w w2 sp S' := by
 obtain ⟨⟨F, h1, h2⟩, h3⟩ := h
 obtain ⟨⟨F', h4, h5⟩, h6⟩ := h' F h1
 have hF' : ∀ k, F' k → w.heap.size ≤ k := fun k hk => by
  rcases h5 k hk with h | h
  · exact h2 k h
  · have := h3.size
    omega
 exact ⟨⟨F', h4, hF'⟩, h3.trans (h6.below h2 h3.size)⟩
theorem NewScr.below {w w1 w2 : World} {sp : Nat} {S : Vz.Sr} (h : NewScr w w1 sp S) (hb : Below w1.heap.size w1 w2) : NewScr w w2 sp S := by
 obtain ⟨⟨F, h1, h2⟩, h3⟩ := h
 exact ⟨⟨F, h1.below hb, h2⟩, Below.later h3 hb h3.size⟩
theorem NewScr.link {w w1 w2 : World} {sp : Nat} {F : Nat → Prop} {S' : Vz.Sr} (h2 : ∀ k, F k → w.heap.size ≤ k) (h3 : Below w.heap.size w w1) (h : ScrTo w1 w2 sp F S') : NewScr w w2 sp S' := by
 obtain ⟨⟨F', h4, h5⟩, h6⟩ := h
 refine ⟨⟨F', h4, fun k hk => ?_⟩, h3.trans (h6.below h2 h3.size)⟩
 rcases h5 k hk with h | h
 · exact h2 k h
 · have := h3.size
   omega
end
end Go.Proofs.YtncgigapgklhcaaGreatDoor
