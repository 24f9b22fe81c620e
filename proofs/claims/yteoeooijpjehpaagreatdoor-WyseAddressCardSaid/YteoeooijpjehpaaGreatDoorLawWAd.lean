import Derived.Test.YteoeooijpjehpaaGreatDoorWadA

/- The law WyseAddress, whole: for all sizes, places and texts it answers true. -/
namespace Go.Proofs.YteoeooijpjehpaaGreatDoor
open Go.RowKit
set_option linter.unusedSimpArgs false
set_option linter.unusedVariables false
attribute [local go_sem] alloc_drewN setCell_drewN World.cell?_alloc_some frozen_alloc_some size_f0 size_f1
attribute [local go_sem 3000] run_neqp_self run_neqp_of

/-- The parameters' boxes. -/
def PX (w : World) (R C r c : Nat) (W : World) : Prop := W.heap[w.heap.size]? = some (.cells #[.int .i64 (R : Int), .int .i64 (C : Int)] 26 (0, 0)) ∧ W.heap[w.heap.size + 1]? = some (.cells #[.int .i64 (r : Int), .int .i64 (c : Int)] 49 (0, 0))
theorem PX.below {w W W' : World} {R C r c : Nat} (h : PX w R C r c W) (hb : Below W.heap.size W W') : PX w R C r c W' := ⟨(hb.block _ (block_lt h.1)).trans h.1, (hb.block _ (block_lt h.2)).trans h.2⟩
/-- The place that is asked for, in numbers. -/
theorem want_nat (R C r c : Nat) : ∃ x y : Nat, wantP R C r c = ⟨(x : Int), (y : Int)⟩ ∧ ((r < R ∧ c < C ∧ x = r ∧ y = c) ∨ (¬ (r < R ∧ c < C) ∧ x = 0 ∧ y = 0)) := by
 unfold wantP
 by_cases h : r < R ∧ c < C
 · refine ⟨r, c, ?_, .inl ⟨h.1, h.2, rfl, rfl⟩⟩
   rw [if_pos ⟨by omega, by omega, by omega, by omega⟩]
 · refine ⟨0, 0, ?_, .inr ⟨h, rfl, rfl⟩⟩
   rw [if_neg (by omega)]
   rfl
set_option maxRecDepth 100000 in
set_option maxHeartbeats 16000000 in
theorem law_wad_main (R C r c : Nat) (hf : fewS R C = true) (hr : r ≤ 90) (hc : c ≤ 90) (t : List UInt8) (ht : t.length ≤ 60) (w : World) (hbl : BaseW w) : Calls Tryz.prog 6 #[.agg #[.int .i64 (R : Int), .int .i64 (C : Int)], .agg #[.int .i64 (r : Int), .int .i64 (c : Int)], .string ⟨t.toArray⟩] w fun e w' => e = .returned (.bool true) ∧ Below w.heap.size w w' := by
 have hf' : 1 ≤ (R : Int) ∧ (R : Int) ≤ 6 ∧ 1 ≤ (C : Int) ∧ (C : Int) ≤ 12 := of_decide_eq_true hf
 have hm : Vz.mayS R C = true := (Vz.mayS_iff _ _).2 (by omega)
 have HAW := Lib.hid (fun W (hb : Below w.heap.size w W) => awake_any W (hbl.below hb))
 have HN := Lib.hid (fun W (hb : Below w.heap.size w W) => made_ok R C hm W (hbl.below hb))
 have HFW := Lib.hid (fun W => hf ▸ few_any R C W)
 obtain ⟨n0, n1, nb⟩ := box2 (Below.refl ((w.alloc (.cells #[.int .i64 (R : Int), .int .i64 (C : Int)] 26)).alloc (.cells #[.int .i64 (r : Int), .int .i64 (c : Int)] 49)).heap.size ((w.alloc (.cells #[.int .i64 (R : Int), .int .i64 (C : Int)] 26)).alloc (.cells #[.int .i64 (r : Int), .int .i64 (c : Int)] 49)))
 have HB0 := Lib.hid nb
 have HP0 := Lib.hid (show PX w R C r c _ from ⟨n0, n1⟩)
 obtain ⟨x0, x1, g0, g1⟩ := row2 n0
 obtain ⟨y0, y1, h0, h1⟩ := row2 n1
 obtain ⟨br, hbr⟩ : ∃ b : UInt8, b = UInt8.ofNat (r + 32) := ⟨_, rfl⟩
 obtain ⟨bc, hbc⟩ : ∃ b : UInt8, b = UInt8.ofNat (c + 32) := ⟨_, rfl⟩
 have hbrn : (br.toNat : Int) = (r : Int) + 32 := by rw [hbr, UInt8.toNat_ofNat']; omega
 have hbcn : (bc.toNat : Int) = (c : Int) + 32 := by rw [hbc, UInt8.toNat_ofNat']; omega
 have hw1 : IntKind.i64.wrap ((r : Int) + 32) = (br.toNat : Int) := by rw [wrap_in (by omega) (by omega), hbrn]
 have hw2 : IntKind.u8.wrap (br.toNat : Int) = (br.toNat : Int) := by rw [hbrn]; simp [IntKind.wrap, IntKind.bits, IntKind.signed]; omega
 have hw3 : IntKind.i64.wrap ((c : Int) + 32) = (bc.toNat : Int) := by rw [wrap_in (by omega) (by omega), hbcn]
 have hw4 : IntKind.u8.wrap (bc.toNat : Int) = (bc.toNat : Int) := by rw [hbcn]; simp [IntKind.wrap, IntKind.bits, IntKind.signed]; omega
 obtain ⟨r1, hr1⟩ : ∃ n : Nat, n = r + 1 := ⟨_, rfl⟩
 obtain ⟨c1, hc1⟩ : ∃ n : Nat, n = c + 1 := ⟨_, rfl⟩
 have hw5 : IntKind.i64.wrap ((r : Int) + 1) = (r1 : Int) := by rw [wrap_in (by omega) (by omega)]; omega
 have hw6 : IntKind.i64.wrap ((c : Int) + 1) = (c1 : Int) := by rw [wrap_in (by omega) (by omega)]; omega
 have HD1 := Lib.hid (fun W => decimal_any r1 (by omega) W)
 have HD2 := Lib.hid (fun W => decimal_any c1 (by omega) W)
 have hsa := str_a r c
 rw [← hr1, ← hc1] at hsa
 obtain ⟨d1, he1⟩ : ∃ d : ByteArray, (⟨(decL r1).toArray⟩ : ByteArray) = d := ⟨_, rfl⟩
 obtain ⟨d2, he2⟩ : ∃ d : ByteArray, (⟨(decL c1).toArray⟩ : ByteArray) = d := ⟨_, rfl⟩
 have z1 : d1.size ≤ 2 := by rw [← he1]; show (decL r1).toArray.size ≤ 2; have := decL_len r1; simpa using this
 have z2 : d2.size ≤ 2 := by rw [← he2]; show (decL c1).toArray.size ≤ 2; have := decL_len c1; simpa using this
 have hs1 : ¬ 9223372036854775807 < 2 + d1.size := by omega
 have hs2 : ¬ 9223372036854775807 < 2 + d1.size + 1 := by omega
 have hs3 : ¬ 9223372036854775807 < 2 + d1.size + 1 + d2.size := by omega
 have hs4 : ¬ 9223372036854775807 < 2 + d1.size + 1 + d2.size + 1 := by omega
 have hs5 : ¬ 9223372036854775807 < 2 + t.length := by omega
 have hs6 : ¬ 9223372036854775807 < 2 + t.length + 1 := by omega
 rw [he1] at HD1 hsa
 rw [he2] at HD2 hsa
 have HSA := Lib.hid hsa
 have HFE := Lib.hid (feed_eq (A := newW 60 R C) rfl rfl r c hr hc)
 rw [← hbr, ← hbc] at HFE
 have HFA := Lib.hid (feed_a (A := newW 60 R C) rfl rfl r c hr hc)
 have hLA : (27 :: 97 :: (addrL r c ++ [67])).length ≤ 100000 := by
  have h1 := decL_len (r + 1)
  have h2 := decL_len (c + 1)
  simp [addrL]
  omega
 have HLA := Lib.hid hLA
 obtain ⟨x, y, hxy, hcase⟩ := want_nat R C r c
 have HG := Lib.hid (gone_new R C hm (r : Int) (c : Int))
 rw [hxy] at HG
 obtain ⟨px, hpx⟩ : ∃ b : UInt8, b = UInt8.ofNat (x + 32) := ⟨_, rfl⟩
 obtain ⟨py, hpy⟩ : ∃ b : UInt8, b = UInt8.ofNat (y + 32) := ⟨_, rfl⟩
 have hpxn : (px.toNat : Int) = (x : Int) + 32 := by rw [hpx, UInt8.toNat_ofNat']; omega
 have hpyn : (py.toNat : Int) = (y : Int) + 32 := by rw [hpy, UInt8.toNat_ofNat']; omega
 have hv1 : IntKind.i64.wrap ((x : Int) + 32) = (px.toNat : Int) := by rw [wrap_in (by omega) (by omega), hpxn]
 have hv2 : IntKind.u8.wrap (px.toNat : Int) = (px.toNat : Int) := by rw [hpxn]; simp [IntKind.wrap, IntKind.bits, IntKind.signed]; omega
 have hv3 : IntKind.i64.wrap ((y : Int) + 32) = (py.toNat : Int) := by rw [wrap_in (by omega) (by omega), hpyn]
 have hv4 : IntKind.u8.wrap (py.toNat : Int) = (py.toNat : Int) := by rw [hpyn]; simp [IntKind.wrap, IntKind.bits, IntKind.signed]; omega
 have HGA := Lib.hid (fun (A : Wy) (h : GoneW A ⟨(x : Int), (y : Int)⟩) => gone_ask h x y rfl (by omega) (by omega) px py hpxn hpyn)
 have hr0 : ¬ (r : Int) < 0 := by omega
 have hr9 : ¬ (90 : Int) < (r : Int) := by omega
 have hc0 : ¬ (c : Int) < 0 := by omega
 have hc9 : ¬ (90 : Int) < (c : Int) := by omega
 have hzt : (⟨t.toArray⟩ : ByteArray).size = t.length := by simp [ByteArray.size]
 have ht9 : ¬ (60 : Int) < (t.length : Int) := by omega
 have HST := Lib.hid (fun (A : Wy) (h : A.pr = false) (h' : A.seq = []) (h13 : ∀ x ∈ t, x ≠ 13) => feed_status h h' t h13 ht)
 have HSF := Lib.hid (str_F t)
 have HLF : Hid ((27 :: 70 :: (t ++ [13])).length ≤ 100000) := by show _ ≤ _; simp; omega
 have HCASE := Lib.hid hcase
 clear hbl hf hm n0 n1 nb hbr hbc hbrn hbcn hr1 hc1 he1 he2 hsa hLA hxy hpx hpy hpxn hpyn hcase hr hc
 go_enter Tryz.func6, Tryz.ntmps6
 go_upto_region 7 with (first
  | (go_at_call 19; refine (HFW.out _).mono ?_; rintro e w1 ⟨rfl, hb1⟩; have HB1 := Lib.hid (Below.later HB0.out hb1 HB0.out.size); have HP1 := Lib.hid (HP0.out.below hb1); clear x0 x1 g0 g1 y0 y1 h0 h1; obtain ⟨x0, x1, g0, g1⟩ := row2 HP1.out.1; obtain ⟨y0, y1, h0, h1⟩ := row2 HP1.out.2; clear hb1)
  | (go_at_call 10; refine (HN.out _ HB2.out).mono ?_; rintro e w3 ⟨wb, tb, sb, qb, rfl, hmd⟩; have HD3 := Lib.hid (Duo.of_made HM2.out hmd); clear hmd x0 x1 y0 y1 g0 g1 h0 h1)
  | (go_at_call 10; refine (HN.out _ HB1.out).mono ?_; rintro e w2 ⟨wa, ta, sa, qa, rfl, hmd⟩; have HB2 := Lib.hid (Below.later HB1.out hmd.2.2.2 HB1.out.size); have HP2 := Lib.hid (HP1.out.below (Below.mono hmd.2.2.2 (Nat.le_refl _))); clear x0 x1 g0 g1 y0 y1 h0 h1; obtain ⟨x0, x1, g0, g1⟩ := row2 HP2.out.1; obtain ⟨y0, y1, h0, h1⟩ := row2 HP2.out.2; have HM2 := Lib.hid hmd; clear hmd))
 have HPX : Hid (∀ W, Below w1.heap.size w1 W → PX w R C r c W) := fun W hb => HP1.out.below hb
 have HD4 : Hid (Duo w1 w3.drew wa ta sa qa (newW 60 R C) wb tb sb qb (newW 60 R C)) := HD3.out.below (Below.refl _ _).drew
 refine wp_region_noPanic ?_
 refine wp_region_k (S := fun W : World => Duo w1 W wa ta sa qa (newW 60 R C) wb tb sb qb (newW 60 R C)) 15 (by kernel_rfl) (HD4.out) (fun hHeld => ?_)
 refine kSK 0 hHeld ?_
 refine kSK 1 hHeld ?_
 refine kSK 2 hHeld ?_
 refine kTK (v := ?_) 3 [] hHeld ?y4 ?_
 case y4 => (intro W hSw; obtain ⟨z0, z1, z2⟩ := hSw.cells; obtain ⟨p0, p1, _⟩ := row2 (HPX.out _ hSw.belowW).2; go_simp; try with_reducible rfl)
 refine kSK 4 hHeld ?_
 try refine kNK ?_
 refine kTK (v := ?_) 5 [14, 13, 12, 7, 6] hHeld ?y6 ?_
 case y6 => (intro W hSw; obtain ⟨z0, z1, z2⟩ := hSw.cells; obtain ⟨p0, p1, _⟩ := row2 (HPX.out _ hSw.belowW).2; go_simp; try with_reducible rfl)
 refine kSK 6 hHeld ?_
 refine kSK 7 hHeld ?_
 refine kSK 8 hHeld ?_
 refine kTK (v := ?_) 9 [14, 13, 12, 11, 10] hHeld ?y10 ?_
 case y10 => (intro W hSw; obtain ⟨z0, z1, z2⟩ := hSw.cells; obtain ⟨p0, p1, _⟩ := row2 (HPX.out _ hSw.belowW).2; go_simp; try with_reducible rfl)
 try refine kNK ?_
 refine kSK 10 hHeld ?_
 refine kSK 11 hHeld ?_
 try refine kNK ?_
 refine kOK 12 fun KQ hKQ => ?_
 go_simp
 refine hKQ.out _ _ (hHeld.below (below1 _ _)) ?_
 clear hHeld hKQ KQ
 intro hHeld
 try refine kNK ?_
 have hcv : (convert 56 9 (.slice (some ⟨w3.heap.size, 0, none⟩) 2 2)).run Tryz.prog (w3.alloc (.cells #[.int .u8 (br.toNat : Int), .int .u8 (bc.toNat : Int)] 5)).drew = .ok (.string ⟨[br, bc].toArray⟩) (w3.alloc (.cells #[.int .u8 (br.toNat : Int), .int .u8 (bc.toNat : Int)] 5)).drew := conv_at (W := (w3.alloc (.cells #[.int .u8 (br.toNat : Int), .int .u8 (bc.toNat : Int)] 5)).drew) (g := w3.heap.size) [br, bc] (heap_alloc_new w3 _)
 refine kOK 13 fun KQ hKQ => ?_
 go_simp
 skip
 refine hKQ.out _ _ (hHeld) ?_
 clear hHeld hKQ KQ
 intro hHeld
 try refine kNK ?_
 clear hcv
 refine kSK 14 hHeld ?_
 try refine kNK ?_
 refine kPK 15 fun KQ hKQ => ?_
 go_simp
 go_at_call 12
 have hfd := duo_feed hHeld [27, 61, br, bc] (by simp)
 rw [← str_eq2 br bc, HFE.out] at hfd
 refine hfd.mono ?_
 clear hfd
 rintro e w5 ⟨rfl, hm⟩
 have HD5 := Lib.hid hm
 clear hm
 go_wp2_with fail
 refine hKQ.out _ _ ?_
 clear hKQ KQ
 try refine kNK ?_
 refine wpAnyK_done (by kernel_rfl) ?_ _
 refine NoPanic.normal ?_
 clear hHeld
 go_upto_region 8 with fail
 have HD6 := Lib.hid (HD5.out.below (Below.refl _ _).drew)
 refine wp_region_noPanic ?_
 refine wp_region_k (S := fun W : World => Duo w1 W wa ta sa qa (goesW (newW 60 R C) (r : Int) (c : Int)) wb tb sb qb (newW 60 R C)) 16 (by kernel_rfl) (HD6.out) (fun hHeld => ?_)
 refine kSK 0 hHeld ?_
 refine kSK 1 hHeld ?_
 refine kSK 2 hHeld ?_
 refine kTK (v := ?_) 3 [] hHeld ?y4 ?_
 case y4 => (intro W hSw; obtain ⟨z0, z1, z2⟩ := hSw.swap.cells; obtain ⟨p0, p1, _⟩ := row2 (HPX.out _ hSw.belowW).2; go_simp; try with_reducible rfl)
 refine kSK 4 hHeld ?_
 try refine kNK ?_
 refine kTK (v := ?_) 5 [13, 7, 6] hHeld ?y6 ?_
 case y6 => (intro W hSw; obtain ⟨z0, z1, z2⟩ := hSw.swap.cells; obtain ⟨p0, p1, _⟩ := row2 (HPX.out _ hSw.belowW).2; go_simp; try with_reducible rfl)
 refine kSK 6 hHeld ?_
 refine kSK 10 hHeld ?_
 refine kTK (v := ?_) 11 [13, 12] hHeld ?y9 ?_
 case y9 => (intro W hSw; obtain ⟨z0, z1, z2⟩ := hSw.swap.cells; obtain ⟨p0, p1, _⟩ := row2 (HPX.out _ hSw.belowW).2; go_simp; try with_reducible rfl)
 refine kSK 12 hHeld ?_
 try refine kNK ?_
 refine kOK 7 fun KQ hKQ => ?_
 go_simp
 go_at_call 24
 refine (HD1.out _).mono ?_
 rintro e w6 ⟨rfl, hb6⟩
 have hx6 := hHeld.below hb6
 go_wp2_with fail
 refine hKQ.out _ _ (hx6) ?_
 clear hHeld hKQ KQ
 intro hHeld
 try refine kNK ?_
 clear hx6 hb6
 refine kSK 8 hHeld ?_
 refine kSK 9 hHeld ?_
 try refine kNK ?_
 refine kOK 13 fun KQ hKQ => ?_
 go_simp
 go_at_call 24
 refine (HD2.out _).mono ?_
 rintro e w7 ⟨rfl, hb7⟩
 have hx7 := hHeld.below hb7
 go_wp2_with fail
 refine hKQ.out _ _ (hx7) ?_
 clear hHeld hKQ KQ
 intro hHeld
 try refine kNK ?_
 clear hx7 hb7
 refine kSK 14 hHeld ?_
 refine kSK 15 hHeld ?_
 try refine kNK ?_
 refine kPK 16 fun KQ hKQ => ?_
 go_simp
 go_at_call 12
 have hfd := duo_feed hHeld.swap (27 :: 97 :: (addrL r c ++ [67])) HLA.out
 rw [← HSA.out, HFA.out] at hfd
 refine hfd.mono ?_
 clear hfd
 rintro e w8 ⟨rfl, hm⟩
 have HD8 := Lib.hid hm.swap
 clear hm
 go_wp2_with fail
 refine hKQ.out _ _ ?_
 clear hKQ KQ
 try refine kNK ?_
 refine wpAnyK_done (by kernel_rfl) ?_ _
 refine NoPanic.normal ?_
 clear hHeld hw1 hw2 hw3 hw4 hw5 hw6
 obtain ⟨A1, hA1⟩ : ∃ A : Wy, A = { goesW (newW 60 R C) (r : Int) (c : Int) with q := [], over := false } := ⟨_, rfl⟩
 have hg := HG.out
 rw [← hA1] at hg
 have hlk := like_same HD8.out
 rw [← hA1] at hlk
 have hfq := HGA.out A1 hg
 obtain ⟨A2, hA2⟩ : ∃ A : Wy, A = { A1 with q := [px, py, 13] } := ⟨_, rfl⟩
 rw [← hA2] at hfq
 have hq2 : A2.q = [px, py, 13] := by rw [hA2]
 have hp2 : A2.pr = false := by rw [hA2]; exact hg.pr
 have hs2 : A2.seq = [] := by rw [hA2]; exact hg.seq
 have hst1 : A1.status = [] := hg.status
 have HPL := Lib.hid hg.pl
 have HLK := Lib.hid hlk
 have HFQ := Lib.hid hfq
 have HQ2 := Lib.hid hq2
 have HP2 := Lib.hid hp2
 have HS2 := Lib.hid hs2
 have HT1 := Lib.hid hst1
 obtain ⟨z0, z1, z2⟩ := HD8.out.cells
 clear hg hlk hfq hA1 hA2 hq2 hp2 hs2 hst1 HG HGA HFE HFA HSA HD1 HD2
 go_upto_region 12 with (first
  | (go_at_call 23; refine HLK.out.mono ?_; rintro e w9 ⟨rfl, hd9⟩; have HD9 := Lib.hid hd9; clear z0 z1 z2; obtain ⟨z0, z1, z2⟩ := hd9.cells; clear hd9)
  | (go_at_call 22; have hcu := duo_cursor HD9.out; rw [HPL.out] at hcu; refine hcu.mono ?_; clear hcu; rintro e w10 ⟨rfl, hb10⟩; have HZ10 : Hid (w9.heap.size ≤ w10.heap.size) := hb10.size; have HB10 := Lib.hid (hb10.alloc hb10.size (.cells #[.int .i64 (x : Int), .int .i64 (y : Int)] 49)); have HX10 := Lib.hid (heap_alloc_new w10 (.cells #[.int .i64 (x : Int), .int .i64 (y : Int)] 49)); clear hb10 z0 z1 z2; obtain ⟨z0, z1, z2⟩ := (HD9.out.below HB10.out).cells; obtain ⟨u0, u1, u2, u3⟩ := row2 (HPX.out _ (HD9.out.below HB10.out).belowW).1; obtain ⟨s0, s1, s2, s3⟩ := row2 (HPX.out _ (HD9.out.below HB10.out).belowW).2))
 have hq12 : ((r : Int) < (R : Int) ∧ (c : Int) < (C : Int) ∧ SameP x y r c) ∨ ((r : Int) < (R : Int) ∧ ¬ (c : Int) < (C : Int) ∧ SameP x y 0 0) ∨ (¬ (r : Int) < (R : Int) ∧ SameP x y 0 0) := by
  unfold SameP
  rcases HCASE.out with h | h <;> omega
 clear hr0 hr9 hc0 hc9
 rcases hq12 with ⟨q1, q2, hsp⟩ | ⟨q1, q2, hsp⟩ | ⟨q1, hsp⟩
 all_goals (
  go_upto_region 16 with (go_at_call 12; have hfd := duo_feed_g (p := ⟨(x : Int), (y : Int)⟩) HD9.out HB10.out HZ10.out HX10.out [27, 63] (by decide); rw [HFQ.out] at hfd; refine hfd.mono ?_; clear hfd; rintro e w11 ⟨rfl, hd11⟩; have HG11 := Lib.hid hd11; clear hd11)
  clear z0 z1 z2 u0 u1 u2 u3 s0 s1 s2 s3
  obtain ⟨FT, hft, hfw, hfg, hdr⟩ := duo_drain HG11.out
  rw [HQ2.out] at hdr
  have HDR := Lib.hid hdr
  have HFT := Lib.hid hft
  have HFW := Lib.hid hfw
  have HFG := Lib.hid hfg
  have HB11 : Hid (Below w11.heap.size w11 w11.drew) := (Below.refl _ _).drew
  clear hdr hft hfw hfg
  refine wp_region_noPanic ?_
  refine wp_region_k (S := fun W : World => boxW W wa ta sa qa ∧ W.heap[w10.heap.size]? = some (.cells #[.int .i64 (x : Int), .int .i64 (y : Int)] 49 (0, 0))) 15 (by kernel_rfl) ((HG11.out.below HB11.out).box) (fun hHeld => ?_)
  refine kSK 0 hHeld ?_
  refine kSK 1 hHeld ?_
  refine kSK 2 hHeld ?_
  refine kTK (v := ?_) 3 [4] hHeld ?y4 ?_
  case y4 => (intro W hSw; obtain ⟨z0, z1, z2, _⟩ := row3 hSw.1; obtain ⟨p0, p1, _⟩ := row2 hSw.2; go_simp; try with_reducible rfl)
  refine kSK 5 hHeld ?_
  try refine kNK ?_
  refine kTK (v := ?_) 6 [14, 13, 8, 7] hHeld ?y6 ?_
  case y6 => (intro W hSw; obtain ⟨z0, z1, z2, _⟩ := row3 hSw.1; obtain ⟨p0, p1, _⟩ := row2 hSw.2; go_simp; try with_reducible rfl)
  refine kSK 7 hHeld ?_
  refine kSK 8 hHeld ?_
  refine kSK 9 hHeld ?_
  refine kTK (v := ?_) 10 [14, 13, 12, 11] hHeld ?y10 ?_
  case y10 => (intro W hSw; obtain ⟨z0, z1, z2, _⟩ := row3 hSw.1; obtain ⟨p0, p1, _⟩ := row2 hSw.2; go_simp; try with_reducible rfl)
  try refine kNK ?_
  refine kSK 11 hHeld ?_
  refine kSK 12 hHeld ?_
  try refine kNK ?_
  refine wpAnyK_ready (rs := [4, 13]) (by kernel_rfl) (by simp) ?_
  refine AllReadyK.cons rfl (fun KQ hKQ => ?_) (AllReadyK.cons rfl (fun KQ hKQ => ?_) AllReadyK.nil)
  focus
   go_simp
   go_at_call 25
   first | refine (HDR.out _ HB13.out).mono ?_ | refine (HDR.out _ HB11.out).mono ?_
   rintro e w14 ⟨rfl, hm, hk⟩
   have hs14 := And.intro ((hk.block _ (block_lt hHeld.1) HFW.out).trans hHeld.1) ((hk.block _ (block_lt hHeld.2) HFG.out).trans hHeld.2)
   first | (have hcv14 : (convert 56 9 (.slice (some ⟨w11.heap.size, 0, none⟩) 3 3)).run Tryz.prog w14 = .ok (.string ⟨[px, py, 13].toArray⟩) w14 := conv_at [px, py, 13] ((hk.block _ (block_lt HX13.out) (fun hf => by have := HFT.out _ hf; omega)).trans HX13.out)) | skip
   have HDE := Lib.hid hm
   clear hm hk
   go_wp2_with fail
   refine hKQ.out _ _ (hs14) ?_
   clear hHeld hKQ KQ
   intro hHeld
   try refine kNK ?_
   clear hs14
   refine kOK 13 fun KQ hKQ => ?_
   go_simp
   refine hKQ.out _ _ (⟨(Below.heap_alloc _ _ _ (block_lt hHeld.1)).trans hHeld.1, (Below.heap_alloc _ _ _ (block_lt hHeld.2)).trans hHeld.2⟩) ?_
   clear hHeld hKQ KQ
   intro hHeld
   try refine kNK ?_
   first | (have hcv : (convert 56 9 (.slice (some ⟨w14.heap.size, 0, none⟩) 3 3)).run Tryz.prog (w14.alloc (.cells #[.int .u8 (px.toNat : Int), .int .u8 (py.toNat : Int), .int .u8 13] 5)) = .ok (.string ⟨[px, py, 13].toArray⟩) (w14.alloc (.cells #[.int .u8 (px.toNat : Int), .int .u8 (py.toNat : Int), .int .u8 13] 5)) := conv_at [px, py, 13] (heap_alloc_new w14 _); have hde := HDE.out.below (below1 w14 (.cells #[.int .u8 (px.toNat : Int), .int .u8 (py.toNat : Int), .int .u8 13] 5)); clear HDE; have HDE := Lib.hid hde; clear hde) | (have hx := heap_alloc_new w11 (.cells #[.int .u8 (px.toNat : Int), .int .u8 (py.toNat : Int), .int .u8 13] 5); have HX13 : Hid ((w11.alloc (.cells #[.int .u8 (px.toNat : Int), .int .u8 (py.toNat : Int), .int .u8 13] 5)).drew.heap[w11.heap.size]? = some (.cells #[.int .u8 (px.toNat : Int), .int .u8 (py.toNat : Int), .int .u8 13] 5 (0, 0))) := hx; have hcv : (convert 56 9 (.slice (some ⟨w11.heap.size, 0, none⟩) 3 3)).run Tryz.prog (w11.alloc (.cells #[.int .u8 (px.toNat : Int), .int .u8 (py.toNat : Int), .int .u8 13] 5)).drew = .ok (.string ⟨[px, py, 13].toArray⟩) (w11.alloc (.cells #[.int .u8 (px.toNat : Int), .int .u8 (py.toNat : Int), .int .u8 13] 5)).drew := conv_at [px, py, 13] hx; have HB13 : Hid (Below w11.heap.size w11 (w11.alloc (.cells #[.int .u8 (px.toNat : Int), .int .u8 (py.toNat : Int), .int .u8 13] 5)).drew) := (below1 _ _).drew; clear hx)
   refine kOK 14 fun KQ hKQ => ?_
   go_simp
   skip
   refine hKQ.out _ _ (hHeld) ?_
   clear hHeld hKQ KQ
   intro hHeld
   try refine kNK ?_
   refine kPK 15 fun KQ hKQ => ?_
   go_simp
   refine hKQ.out _ _ ?_
   clear hKQ KQ
   try refine kNK ?_
   refine wpAnyK_done (by kernel_rfl) ?_ _
   refine NoPanic.normal ?_
  rotate_left 1
  focus
   go_simp
   refine hKQ.out _ _ (⟨(Below.heap_alloc _ _ _ (block_lt hHeld.1)).trans hHeld.1, (Below.heap_alloc _ _ _ (block_lt hHeld.2)).trans hHeld.2⟩) ?_
   clear hHeld hKQ KQ
   intro hHeld
   try refine kNK ?_
   first | (have hcv : (convert 56 9 (.slice (some ⟨w14.heap.size, 0, none⟩) 3 3)).run Tryz.prog (w14.alloc (.cells #[.int .u8 (px.toNat : Int), .int .u8 (py.toNat : Int), .int .u8 13] 5)) = .ok (.string ⟨[px, py, 13].toArray⟩) (w14.alloc (.cells #[.int .u8 (px.toNat : Int), .int .u8 (py.toNat : Int), .int .u8 13] 5)) := conv_at [px, py, 13] (heap_alloc_new w14 _); have hde := HDE.out.below (below1 w14 (.cells #[.int .u8 (px.toNat : Int), .int .u8 (py.toNat : Int), .int .u8 13] 5)); clear HDE; have HDE := Lib.hid hde; clear hde) | (have hx := heap_alloc_new w11 (.cells #[.int .u8 (px.toNat : Int), .int .u8 (py.toNat : Int), .int .u8 13] 5); have HX13 : Hid ((w11.alloc (.cells #[.int .u8 (px.toNat : Int), .int .u8 (py.toNat : Int), .int .u8 13] 5)).drew.heap[w11.heap.size]? = some (.cells #[.int .u8 (px.toNat : Int), .int .u8 (py.toNat : Int), .int .u8 13] 5 (0, 0))) := hx; have hcv : (convert 56 9 (.slice (some ⟨w11.heap.size, 0, none⟩) 3 3)).run Tryz.prog (w11.alloc (.cells #[.int .u8 (px.toNat : Int), .int .u8 (py.toNat : Int), .int .u8 13] 5)).drew = .ok (.string ⟨[px, py, 13].toArray⟩) (w11.alloc (.cells #[.int .u8 (px.toNat : Int), .int .u8 (py.toNat : Int), .int .u8 13] 5)).drew := conv_at [px, py, 13] hx; have HB13 : Hid (Below w11.heap.size w11 (w11.alloc (.cells #[.int .u8 (px.toNat : Int), .int .u8 (py.toNat : Int), .int .u8 13] 5)).drew) := (below1 _ _).drew; clear hx)
   refine wpAnyK_ready (rs := [4, 14]) (by kernel_rfl) (by simp) ?_
   refine AllReadyK.cons rfl (fun KQ hKQ => ?_) (AllReadyK.cons rfl (fun KQ hKQ => ?_) AllReadyK.nil)
   focus
    go_simp
    go_at_call 25
    first | refine (HDR.out _ HB13.out).mono ?_ | refine (HDR.out _ HB11.out).mono ?_
    rintro e w14 ⟨rfl, hm, hk⟩
    have hs14 := And.intro ((hk.block _ (block_lt hHeld.1) HFW.out).trans hHeld.1) ((hk.block _ (block_lt hHeld.2) HFG.out).trans hHeld.2)
    first | (have hcv14 : (convert 56 9 (.slice (some ⟨w11.heap.size, 0, none⟩) 3 3)).run Tryz.prog w14 = .ok (.string ⟨[px, py, 13].toArray⟩) w14 := conv_at [px, py, 13] ((hk.block _ (block_lt HX13.out) (fun hf => by have := HFT.out _ hf; omega)).trans HX13.out)) | skip
    have HDE := Lib.hid hm
    clear hm hk
    go_wp2_with fail
    refine hKQ.out _ _ (hs14) ?_
    clear hHeld hKQ KQ
    intro hHeld
    try refine kNK ?_
    clear hs14
    refine kOK 14 fun KQ hKQ => ?_
    go_simp
    skip
    refine hKQ.out _ _ (hHeld) ?_
    clear hHeld hKQ KQ
    intro hHeld
    try refine kNK ?_
    refine kPK 15 fun KQ hKQ => ?_
    go_simp
    refine hKQ.out _ _ ?_
    clear hKQ KQ
    try refine kNK ?_
    refine wpAnyK_done (by kernel_rfl) ?_ _
    refine NoPanic.normal ?_
   rotate_left 1
   focus
    go_simp
    skip
    refine hKQ.out _ _ (hHeld) ?_
    clear hHeld hKQ KQ
    intro hHeld
    try refine kNK ?_
    refine kOK 4 fun KQ hKQ => ?_
    go_simp
    go_at_call 25
    first | refine (HDR.out _ HB13.out).mono ?_ | refine (HDR.out _ HB11.out).mono ?_
    rintro e w14 ⟨rfl, hm, hk⟩
    have hs14 := And.intro ((hk.block _ (block_lt hHeld.1) HFW.out).trans hHeld.1) ((hk.block _ (block_lt hHeld.2) HFG.out).trans hHeld.2)
    first | (have hcv14 : (convert 56 9 (.slice (some ⟨w11.heap.size, 0, none⟩) 3 3)).run Tryz.prog w14 = .ok (.string ⟨[px, py, 13].toArray⟩) w14 := conv_at [px, py, 13] ((hk.block _ (block_lt HX13.out) (fun hf => by have := HFT.out _ hf; omega)).trans HX13.out)) | skip
    have HDE := Lib.hid hm
    clear hm hk
    go_wp2_with fail
    refine hKQ.out _ _ (hs14) ?_
    clear hHeld hKQ KQ
    intro hHeld
    try refine kNK ?_
    clear hs14
    refine kPK 15 fun KQ hKQ => ?_
    go_simp
    refine hKQ.out _ _ ?_
    clear hKQ KQ
    try refine kNK ?_
    refine wpAnyK_done (by kernel_rfl) ?_ _
    refine NoPanic.normal ?_
   rotate_left 1
  rotate_left 2
  skip)
 all_goals (
  go_wp2_with fail
  go_loopw [12] (fun i wr => ∃ k : Nat, k ≤ t.length ∧ i = .int .i64 (k : Int) ∧ (∀ z ∈ t.take k, z ≠ 13) ∧ Duo w1 wr wa ta sa qa { A2 with q := [], over := false } wb tb sb qb A1) (fun i _ => t.length - (intOf i).toNat)
  case atStart => exact ⟨0, Nat.zero_le _, rfl, by simp, HDE.out⟩
  case round =>
   obtain ⟨k, hk, rfl, hx13, hD⟩ := hrel
   have HDK := Lib.hid hD
   have HX := Lib.hid hx13
   clear hD hx13
   have HBK : Hid (Below w.heap.size w wr) := Below.later HB1.out HDK.out.belowW HB1.out.size
   by_cases hlt : k < t.length
   · have hzk : (k : Int) < (t.length : Int) := by omega
     have hwk : IntKind.i64.wrap ((k : Int) + 1) = ((k + 1 : Nat) : Int) := by rw [wrap_in (by omega) (by omega)]; rfl
     obtain ⟨b, hb⟩ : ∃ b : UInt8, t[k] = b := ⟨_, rfl⟩
     have hgx : (⟨t.toArray⟩ : ByteArray)[k]'(by show k < t.toArray.size; simpa using hlt) = b := by
      show t.toArray[k]'(by simpa using hlt) = _
      simp [hb]
     have HBV := Lib.hid hb
     clear hb
     by_cases h13 : b.toNat = 13
     · have h13' : (b.toNat : Int) = 13 := by omega
       go_wp2_with (go_at_call 9; refine (HAW.out _ HBK.out).mono ?_; rintro e w20 ⟨rfl, hb20⟩; have HB20 := Lib.hid (Below.later HBK.out hb20 HBK.out.size); clear hb20)
       go_ret
       exact ⟨rfl, HB20.out⟩
     · have h13' : ¬ (b.toNat : Int) = 13 := by omega
       go_wp2_with fail
       refine ⟨⟨k + 1, by omega, rfl, fun z hz => ?_, HDK.out⟩, by simp [intOf]; omega⟩
       rw [List.take_add_one, List.getElem?_eq_getElem hlt, HBV.out] at hz
       rcases List.mem_append.1 hz with h | h
       · exact HX.out z h
       · have : z = b := by simpa using h
         subst this
         exact fun e => h13 (by rw [e]; rfl)
   · obtain rfl : k = t.length := by omega
     have hfl := HST.out { A2 with q := [], over := false } HP2.out HS2.out (by have := HX.out; rwa [List.take_length] at this)
     have hfd := duo_feed HDK.out (27 :: 70 :: (t ++ [13])) HLF.out
     rw [hfl, ← HSF.out] at hfd
     have HFD := Lib.hid hfd
     clear hfl hfd
     obtain ⟨z0, z1, z2⟩ := HDK.out.cells
     go_wp2_with (first
      | (go_at_call 12; refine HFD.out.mono ?_; rintro e w21 ⟨rfl, hd21⟩; have HD21 := Lib.hid hd21; clear z0 z1 z2; obtain ⟨z0, z1, z2⟩ := hd21.cells; obtain ⟨y0, y1, y2⟩ := hd21.swap.cells; clear hd21)
      | (go_at_call 18; have hpn := duo_pending HD21.out; rw [show ({ A2 with q := [], over := false, status := t } : Wy).seq = [] from HS2.out] at hpn; refine hpn.mono ?_; clear hpn; rintro e w22 ⟨rfl, rfl⟩)
      | (go_at_call 9; refine (HAW.out _ (Below.later HB1.out HD21.out.belowW HB1.out.size)).mono ?_; rintro e w24 ⟨rfl, hb24⟩; have HB24 := Lib.hid (Below.later (Below.later HB1.out HD21.out.belowW HB1.out.size) hb24 (Below.later HB1.out HD21.out.belowW HB1.out.size).size); clear hb24)
      | (go_at_call 17; refine (duo_status HD21.out).mono ?_; rintro e w25 ⟨rfl, rfl⟩)
      | (go_at_call 17; have hsb := duo_status HD21.out.swap; rw [HT1.out] at hsb; refine hsb.mono ?_; clear hsb; rintro e w26 ⟨rfl, rfl⟩))
     go_ret
     exact ⟨rfl, HB24.out⟩)
set_option maxRecDepth 100000 in
set_option maxHeartbeats 4000000 in
/-- What is not asked: only the chapter's example. -/
theorem law_wad_no (R C r c : Int) (t : ByteArray) (w : World) (hbl : BaseW w) (h : fewS R C = false ∨ fewS R C = true ∧ (r < 0 ∨ ¬ r < 0 ∧ (90 < r ∨ ¬ 90 < r ∧ (c < 0 ∨ ¬ c < 0 ∧ (90 < c ∨ ¬ 90 < c ∧ 60 < (t.size : Int)))))) : Calls Tryz.prog 6 #[.agg #[.int .i64 R, .int .i64 C], .agg #[.int .i64 r, .int .i64 c], .string t] w fun e w' => e = .returned (.bool true) ∧ Below w.heap.size w w' := by
 have HAW := Lib.hid (fun W (hb : Below w.heap.size w W) => awake_any W (hbl.below hb))
 have HFW := Lib.hid (fun W => few_any R C W)
 obtain ⟨n0, n1, nb⟩ := box2 (Below.refl ((w.alloc (.cells #[.int .i64 R, .int .i64 C] 26)).alloc (.cells #[.int .i64 r, .int .i64 c] 49)).heap.size ((w.alloc (.cells #[.int .i64 R, .int .i64 C] 26)).alloc (.cells #[.int .i64 r, .int .i64 c] 49)))
 have HB0 := Lib.hid nb
 have HN1 := Lib.hid n1
 obtain ⟨x0, x1, g0, g1⟩ := row2 n0
 clear hbl nb n0 n1
 rcases h with h | ⟨h, h1 | ⟨h1, h2 | ⟨h2, h3 | ⟨h3, h4 | ⟨h4, h5⟩⟩⟩⟩⟩
 all_goals (
  rw [h] at HFW
  go_enter Tryz.func6, Tryz.ntmps6
  go_wp2_with (first
   | (go_at_call 19; refine (HFW.out _).mono ?_; rintro e w1 ⟨rfl, hb1⟩; have HB1 := Lib.hid (Below.later HB0.out hb1 HB0.out.size); clear x0 x1 g0 g1; obtain ⟨y0, y1, _⟩ := row2 ((hb1.block _ (block_lt HN1.out)).trans HN1.out); clear hb1)
   | (go_at_call 9; refine (HAW.out _ HB1.out).mono ?_; rintro e w9 ⟨rfl, hb9⟩; have HB9 := Lib.hid (Below.later HB1.out hb9 HB1.out.size); clear hb9))
  go_ret
  exact ⟨rfl, HB9.out⟩)
theorem law_wad (R C r c : Int) (t : ByteArray) (w : World) (hbl : BaseW w) : Calls Tryz.prog 6 #[.agg #[.int .i64 R, .int .i64 C], .agg #[.int .i64 r, .int .i64 c], .string t] w fun e w' => e = .returned (.bool true) ∧ Below w.heap.size w w' := by
 by_cases h : fewS R C = true ∧ ¬ r < 0 ∧ ¬ 90 < r ∧ ¬ c < 0 ∧ ¬ 90 < c ∧ ¬ 60 < (t.size : Int)
 · obtain ⟨hf, h1, h2, h3, h4, h5⟩ := h
   have hf' : 1 ≤ R ∧ R ≤ 6 ∧ 1 ≤ C ∧ C ≤ 12 := of_decide_eq_true hf
   obtain ⟨R, rfl⟩ := Int.eq_ofNat_of_zero_le (show 0 ≤ R by omega)
   obtain ⟨C, rfl⟩ := Int.eq_ofNat_of_zero_le (show 0 ≤ C by omega)
   obtain ⟨r, rfl⟩ := Int.eq_ofNat_of_zero_le (show 0 ≤ r by omega)
   obtain ⟨c, rfl⟩ := Int.eq_ofNat_of_zero_le (show 0 ≤ c by omega)
   have e : (⟨t.data.toList.toArray⟩ : ByteArray) = t := by cases t; simp
   have hl : t.data.toList.length ≤ 60 := by
    rw [Array.length_toList]
    have : t.data.size = t.size := rfl
    omega
   have := law_wad_main R C r c hf (by omega) (by omega) t.data.toList hl w hbl
   rwa [e] at this
 · refine law_wad_no R C r c t w hbl ?_
   cases hf : fewS R C with
   | false => exact .inl rfl
   | true =>
     have h' : ¬ (¬ r < 0 ∧ ¬ 90 < r ∧ ¬ c < 0 ∧ ¬ 90 < c ∧ ¬ 60 < (t.size : Int)) := fun e => h ⟨hf, e⟩
     refine .inr ⟨rfl, ?_⟩
     omega
end Go.Proofs.YteoeooijpjehpaaGreatDoor
