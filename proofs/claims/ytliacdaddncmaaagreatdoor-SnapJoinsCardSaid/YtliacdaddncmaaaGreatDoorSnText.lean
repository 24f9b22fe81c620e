import Derived.Test.YtliacdaddncmaaaGreatDoorSnSame

/- Walks: a shot's text; where two shots of one screen look unlike: nowhere. -/
namespace Go.Proofs.YtliacdaddncmaaaGreatDoor
open Go.RowKit
set_option linter.unusedSimpArgs false
set_option linter.unusedVariables false
attribute [local go_sem] alloc_drewN setCell_drewN World.cell?_alloc_some frozen_alloc_some size_f0 size_f1
attribute [local go_sem 3000] run_neqz_self

theorem rowsB_len (D : Vz.Gd) : ∀ i, (rowsB D i).length ≤ i * (4 * D.C + 1)
  | 0 => Nat.zero_le _
  | i + 1 => by
    have h1 := rowsB_len D i
    have h2 := glyL_len (D.X i) 0 D.C
    rw [rowsB_snoc, List.length_append, List.length_append, Nat.succ_mul, List.length_singleton]
    omega
set_option maxRecDepth 100000 in
set_option maxHeartbeats 8000000 in
theorem text_ok (x : Sh) (OB g cap : Nat) (sv : Value) (G K G' : Nat → Nat) (B : Nat) (w : World) (hS : ShP B w x OB g cap sv G K G') (hm : x.S.D.may) (hR : x.S.D.R ≤ 20) (hC : x.S.D.C ≤ 20) (hx : ∀ i j, CellOk (x.S.D.X i j)) :
    Calls Tryz.prog 9 #[.agg (shV x OB g cap sv)] w fun e w' => e = .returned (.string ⟨(rowsB x.S.D x.S.D.R).toArray⟩) ∧ Below w.heap.size w w' := by
  obtain ⟨sa, sc, hsv, -⟩ := stops_cell hS.stops
  subst hsv
  obtain ⟨m1, m2, m3, m4⟩ := hm
  have HS := Lib.hid hS
  have HX := Lib.hid hx
  have HLN : Hid (∀ i, i ≤ x.S.D.R → (rowsB x.S.D i).length ≤ 2000) := fun i hi => by
    have h1 := rowsB_len x.S.D i
    have h2 : i * (4 * x.S.D.C + 1) ≤ 20 * 81 := Nat.mul_le_mul (by omega) (by omega)
    omega
  obtain ⟨W0, hW0, hb0, hbld, hbox⟩ : ∃ W0, ((w.alloc (.cells (shV x OB g cap (.slice sa (stopsI x.S.D.C x.S.T).length sc)) 30)).alloc (.cells #[.pointer none, .slice none 0 0] 72)) = W0 ∧ Below w.heap.size w W0 ∧ BuildL (w.heap.size + 1) (w.heap.size + 1) [] W0 ∧ W0.heap[w.heap.size]? = some (.cells (shV x OB g cap (.slice sa (stopsI x.S.D.C x.S.T).length sc)) 30 (0, 0)) := by
    refine ⟨_, rfl, (below1 w _).alloc (by simp) _, ?_, ?_⟩
    · have hb := BuildL.fresh (w.alloc (.cells (shV x OB g cap (.slice sa (stopsI x.S.D.C x.S.T).length sc)) 30))
      rw [World.size_alloc] at hb
      exact hb
    · exact (Below.heap_alloc _ _ _ (by simp)).trans (heap_alloc_new w _)
  have HB0 := Lib.hid hb0
  have HL0 := Lib.hid hbld
  clear hS hx hb0 hbld
  generalize (stopsI x.S.D.C x.S.T).length = nl at *
  unfold shV at *
  obtain ⟨⟨x0, x1, x2, x3, x4, x5, x6, x7, x8⟩, _⟩ := row9 hbox
  clear hbox
  go_enter Tryz.func9, Tryz.ntmps9
  go_upto_region 2 with fail
  try rw [hW0]
  clear hW0
  go_wp2_with fail
  clear x0 x1 x2 x3 x4 x5 x6 x7 x8
  go_loopw [9] (fun i wr => ∃ k : Nat, k ≤ x.S.D.R ∧ i = .int .i64 (k : Int) ∧ BuildL (w.heap.size + 1) (w.heap.size + 1) (rowsB x.S.D k) wr ∧ Below w.heap.size w wr) (fun i _ => x.S.D.R - (intOf i).toNat)
  case atStart => exact ⟨0, Nat.zero_le _, rfl, HL0.out, HB0.out⟩
  case round =>
    obtain ⟨k, hk, rfl, hl, hb⟩ := hrel
    have HL := Lib.hid hl
    have HB := Lib.hid hb
    by_cases hlt : k < x.S.D.R
    · have hkz : (k : Int) < (x.S.D.R : Int) := by omega
      have hwk : IntKind.i64.wrap ((k : Int) + 1) = ((k + 1 : Nat) : Int) := by rw [wrap_in (by omega) (by omega)]; rfl
      have o1 : wr.cell? ⟨OB, k, none⟩ = some (.slice (some ⟨G k, 0, none⟩) x.S.D.C (K k)) := (HS.out.below hb).rows.outer.cell hlt
      have HGL := Lib.hid (glyphs_ok (G k) 0 x.S.D.C (x.S.D.X k) x.S.D.C (K k) wr ((HS.out.below hb).rows.cellsIn hlt) ((HS.out.below hb).rows.row k hlt).lt (by omega) m4 (fun j => (HX.out k j).gly))
      have hgl : (glyL (x.S.D.X k) 0 x.S.D.C).length ≤ 80 := by
        have := glyL_len (x.S.D.X k) 0 x.S.D.C
        omega
      have HSN : Hid (rowsB x.S.D (k + 1) = rowsB x.S.D k ++ (glyL (x.S.D.X k) 0 x.S.D.C ++ [10])) := by
        show _ = _
        rw [rowsB_snoc, List.append_assoc]
      have HLK := Lib.hid (HLN.out k hk)
      obtain ⟨ga, hga⟩ : ∃ a : ByteArray, a = ⟨(glyL (x.S.D.X k) 0 x.S.D.C).toArray⟩ := ⟨_, rfl⟩
      have hgs : ga.size ≤ 80 := by
        rw [hga]
        simpa [ByteArray.size] using hgl
      have hg1 : ¬ 9223372036854775807 < ga.size + 1 := by omega
      rw [← hga] at HGL
      have HGA : Hid (ga ++ ⟨#[10]⟩ = ⟨(glyL (x.S.D.X k) 0 x.S.D.C ++ [10]).toArray⟩) := by
        show _ = _
        rw [hga]
        exact bytes_cat _ [10]
      have HGN : Hid ((glyL (x.S.D.X k) 0 x.S.D.C ++ [10]).length ≤ 81) := by
        show _ ≤ _
        rw [List.length_append, List.length_singleton]
        omega
      clear hl hb hgl hga hgs
      go_wp2_with (first
        | (go_at_call 28; rw [HGA.out]; have hbsz := HL5.out.lt; refine (write_l HL5.out (by have h1 := HLK.out; have h2 := HGN.out; omega) (by omega)).mono ?_; rintro e w6 ⟨⟨v, rfl⟩, hl6, hb6⟩; have HL6 := Lib.hid hl6; have HB6 := Lib.hid (HB5.out.trans (hb6.mono (Nat.le_succ _))); clear hl6 hb6 hbsz)
        | (go_at_call 27; refine HGL.out.mono ?_; rintro e w5 ⟨rfl, hb5⟩; have HL5 := Lib.hid (HL.out.below hb5); have HB5 := Lib.hid (Below.later HB.out hb5 HB.out.size); clear hb5))
      exact ⟨⟨k + 1, by omega, rfl, by rw [HSN.out]; exact HL6.out, HB6.out⟩, by simp [intOf]; omega⟩
    · obtain rfl : k = x.S.D.R := by omega
      have hbsz := hl.lt
      clear hl hb
      go_wp2_with (go_at_call 29; refine (string_l HL.out (by omega)).mono ?_; rintro e w9 ⟨rfl, hb9⟩)
      go_ret
      exact ⟨rfl, HB.out.trans (hb9.mono (Nat.le_succ _))⟩
set_option maxRecDepth 100000 in
set_option maxHeartbeats 8000000 in
theorem differ_none (x : Sh) (hm : x.S.D.may) (B1 OB1 g1 cap1 : Nat) (sv1 : Value) (G1 K1 H1 : Nat → Nat) (B2 OB2 g2 cap2 : Nat) (sv2 : Value) (G2 K2 H2 : Nat → Nat) (w : World) (h1 : ShP B1 w x OB1 g1 cap1 sv1 G1 K1 H1) (h2 : ShP B2 w x OB2 g2 cap2 sv2 G2 K2 H2) :
    Calls Tryz.prog 18 #[.agg (shV x OB1 g1 cap1 sv1), .agg (shV x OB2 g2 cap2 sv2)] w fun e w' => e = .returned (.tuple #[.slice none 0 0, .int .i64 0]) ∧ Below w.heap.size w w' := by
  obtain ⟨a1, c1, rfl, -⟩ := stops_cell h1.stops
  obtain ⟨a2, c2, rfl, -⟩ := stops_cell h2.stops
  obtain ⟨m1, m2, m3, m4⟩ := hm
  obtain ⟨W0, hW0, hn0, hn1, hnb⟩ : ∃ W0, ((w.alloc (.cells (shV x OB1 g1 cap1 (.slice a1 (stopsI x.S.D.C x.S.T).length c1)) 30)).alloc (.cells (shV x OB2 g2 cap2 (.slice a2 (stopsI x.S.D.C x.S.T).length c2)) 30)) = W0 ∧ W0.heap[w.heap.size]? = some (.cells (shV x OB1 g1 cap1 (.slice a1 (stopsI x.S.D.C x.S.T).length c1)) 30 (0, 0)) ∧ W0.heap[w.heap.size + 1]? = some (.cells (shV x OB2 g2 cap2 (.slice a2 (stopsI x.S.D.C x.S.T).length c2)) 30 (0, 0)) ∧ Below w.heap.size w W0 := by
    refine ⟨_, rfl, ?_⟩
    exact box2 (Below.refl _ _)
  have HR1 : Hid (∀ W, Below W0.heap.size W0 W → RowsAt B1 W OB1 x.S.D G1 K1) := fun W hb => (h1.rows.below hnb).below hb
  have HR2 : Hid (∀ W, Below W0.heap.size W0 W → RowsAt B2 W OB2 x.S.D G2 K2) := fun W hb => (h2.rows.below hnb).below hb
  have HL1 : Hid (∀ W, Below W0.heap.size W0 W → LooksAt B1 W g1 x.S.D.R x.S.D.C (lookS x.p x.S.D) H1) := fun W hb => (h1.looks.below hnb).below hb
  have HL2 : Hid (∀ W, Below W0.heap.size W0 W → LooksAt B2 W g2 x.S.D.R x.S.D.C (lookS x.p x.S.D) H2) := fun W hb => (h2.looks.below hnb).below hb
  have HX1 := Lib.hid (fun W (hb : Below W0.heap.size W0 W) => (hb.block _ (block_lt hn0)).trans hn0)
  have HX2 := Lib.hid (fun W (hb : Below W0.heap.size W0 W) => (hb.block _ (block_lt hn1)).trans hn1)
  have HBW := Lib.hid hnb
  have HB0 : Hid (Below W0.heap.size W0 W0) := Below.refl _ _
  generalize lookS x.p x.S.D = LK at *
  generalize (stopsI x.S.D.C x.S.T).length = nl at *
  unfold shV at *
  obtain ⟨⟨x0, x1, x2, x3, x4, x5, x6, x7, x8⟩, _⟩ := row9 hn0
  obtain ⟨⟨y0, y1, y2, y3, y4, y5, y6, y7, y8⟩, _⟩ := row9 hn1
  clear h1 h2 hn0 hn1 hnb
  go_enter Tryz.func18, Tryz.ntmps18
  go_upto_region 1 with fail
  try rw [hW0]
  clear hW0
  go_wp2_with fail
  clear x0 x1 x2 x3 x4 x5 x6 x7 x8 y0 y1 y2 y3 y4 y5 y6 y7 y8
  go_loopw [6, 20] (fun s i wr => ∃ k : Nat, k ≤ x.S.D.R ∧ s = .slice none 0 0 ∧ i = .int .i64 (k : Int) ∧ Below W0.heap.size W0 wr) (fun s i _ => x.S.D.R - (intOf i).toNat)
  case atStart => exact ⟨0, Nat.zero_le _, rfl, rfl, HB0.out⟩
  case round =>
    obtain ⟨k, hk, rfl, rfl, hb⟩ := hrel
    have HB := Lib.hid hb
    by_cases hlt : k < x.S.D.R
    · have hkz : (k : Int) < (x.S.D.R : Int) := by omega
      have hwk : IntKind.i64.wrap ((k : Int) + 1) = ((k + 1 : Nat) : Int) := by rw [wrap_in (by omega) (by omega)]; rfl
      have o1 : wr.cell? ⟨OB1, k, none⟩ = some (.slice (some ⟨G1 k, 0, none⟩) x.S.D.C (K1 k)) := (HR1.out _ hb).outer.cell hlt
      clear hb
      go_wp2_with fail
      go_loopw [6, 27] (fun s i wr => ∃ q : Nat, q ≤ x.S.D.C ∧ s = .slice none 0 0 ∧ i = .int .i64 (q : Int) ∧ Below W0.heap.size W0 wr) (fun s i _ => x.S.D.C - (intOf i).toNat)
      case atStart => exact ⟨0, Nat.zero_le _, rfl, rfl, HB.out⟩
      case round =>
        clear o1 HB
        obtain ⟨q, hq, rfl, rfl, hb⟩ := hrel
        have HB := Lib.hid hb
        by_cases hlq : q < x.S.D.C
        · have hqz : (q : Int) < (x.S.D.C : Int) := by omega
          have hwq : IntKind.i64.wrap ((q : Int) + 1) = ((q + 1 : Nat) : Int) := by rw [wrap_in (by omega) (by omega)]; rfl
          obtain ⟨d0, d1, d2, d3⟩ := (HR1.out _ hb).cellsIn hlt q hlq
          have HST : Hid (∀ cs : Array Value, Below W0.heap.size W0 ((wr.alloc (.cells cs 47)).alloc (.cells cs 47)).drew ∧ ((wr.alloc (.cells cs 47)).alloc (.cells cs 47)).drew.heap[wr.heap.size]? = some (.cells cs 47 (0, 0)) ∧ ((wr.alloc (.cells cs 47)).alloc (.cells cs 47)).drew.heap[wr.heap.size + 1]? = some (.cells cs 47 (0, 0))) := fun cs => by
            obtain ⟨b1, b2, b3⟩ := box2 (Below.refl ((wr.alloc (.cells cs 47)).alloc (.cells cs 47)).heap.size ((wr.alloc (.cells cs 47)).alloc (.cells cs 47)))
            exact ⟨(Below.later hb b3 hb.size).drew, b1, b2⟩
          obtain ⟨⟨y0, y1, y2, y3, y4, y5, y6, y7, y8⟩, _⟩ := row9 (HX2.out _ (hb.alloc hb.size (.cells #[.int .i32 (x.S.D.X k q).g, .int .i64 (x.S.D.X k q).a, .bool (x.S.D.X k q).gd, .int .i64 (x.S.D.X k q).m] 47)))
          have o2 : (wr.alloc (.cells #[.int .i32 (x.S.D.X k q).g, .int .i64 (x.S.D.X k q).a, .bool (x.S.D.X k q).gd, .int .i64 (x.S.D.X k q).m] 47)).cell? ⟨OB2, k, none⟩ = some (.slice (some ⟨G2 k, 0, none⟩) x.S.D.C (K2 k)) := (HR2.out _ (hb.alloc hb.size _)).outer.cell hlt
          obtain ⟨e0, e1, e2, e3⟩ := (HR2.out _ (hb.alloc hb.size (.cells #[.int .i32 (x.S.D.X k q).g, .int .i64 (x.S.D.X k q).a, .bool (x.S.D.X k q).gd, .int .i64 (x.S.D.X k q).m] 47))).cellsIn hlt q hlq
          clear hb
          go_upto_region 11 with fail
          clear y0 y1 y2 y3 y4 y5 y6 y7 y8 o2 d0 d1 d2 d3 e0 e1 e2 e3
          refine wp_region_noPanic ?_
          refine wp_region_k (S := fun W : World => Below W0.heap.size W0 W ∧ W.heap[wr.heap.size]? = some (.cells #[.int .i32 (x.S.D.X k q).g, .int .i64 (x.S.D.X k q).a, .bool (x.S.D.X k q).gd, .int .i64 (x.S.D.X k q).m] 47 (0, 0)) ∧ W.heap[wr.heap.size + 1]? = some (.cells #[.int .i32 (x.S.D.X k q).g, .int .i64 (x.S.D.X k q).a, .bool (x.S.D.X k q).gd, .int .i64 (x.S.D.X k q).m] 47 (0, 0))) 999 (by kernel_rfl) (HST.out _) (fun hHeld => ?_)
          refine kSK 0 hHeld ?_
          refine kHK (v := ?_) 1 hHeld ?y2 ?_
          case y2 => (intro W hSw; obtain ⟨q0, q1, q2, q3⟩ := cell4 hSw.2.1; obtain ⟨r0, r1, r2, r3⟩ := cell4 hSw.2.2; obtain ⟨⟨x0, x1, x2, x3, x4, x5, x6, x7, x8⟩, _⟩ := row9 (HX1.out _ hSw.1); obtain ⟨⟨y0, y1, y2, y3, y4, y5, y6, y7, y8⟩, _⟩ := row9 (HX2.out _ hSw.1); have l1 := (HL1.out _ hSw.1).outer k hlt; have l2 := (HL2.out _ hSw.1).outer k hlt; have f1 := ((HL1.out _ hSw.1).cell hlt hlq).1; have f2 := ((HL2.out _ hSw.1).cell hlt hlq).1; go_simp; try with_reducible rfl)
          refine kSK 2 hHeld ?_
          refine kHK (v := ?_) 3 hHeld ?y4 ?_
          case y4 => (intro W hSw; obtain ⟨q0, q1, q2, q3⟩ := cell4 hSw.2.1; obtain ⟨r0, r1, r2, r3⟩ := cell4 hSw.2.2; obtain ⟨⟨x0, x1, x2, x3, x4, x5, x6, x7, x8⟩, _⟩ := row9 (HX1.out _ hSw.1); obtain ⟨⟨y0, y1, y2, y3, y4, y5, y6, y7, y8⟩, _⟩ := row9 (HX2.out _ hSw.1); have l1 := (HL1.out _ hSw.1).outer k hlt; have l2 := (HL2.out _ hSw.1).outer k hlt; have f1 := ((HL1.out _ hSw.1).cell hlt hlq).1; have f2 := ((HL2.out _ hSw.1).cell hlt hlq).1; go_simp; try with_reducible rfl)
          refine kSK 4 hHeld ?_
          try refine kNK ?_
          refine kSK 5 hHeld ?_
          refine kSK 6 hHeld ?_
          refine kHK (v := ?_) 7 hHeld ?y8 ?_
          case y8 => (intro W hSw; obtain ⟨q0, q1, q2, q3⟩ := cell4 hSw.2.1; obtain ⟨r0, r1, r2, r3⟩ := cell4 hSw.2.2; obtain ⟨⟨x0, x1, x2, x3, x4, x5, x6, x7, x8⟩, _⟩ := row9 (HX1.out _ hSw.1); obtain ⟨⟨y0, y1, y2, y3, y4, y5, y6, y7, y8⟩, _⟩ := row9 (HX2.out _ hSw.1); have l1 := (HL1.out _ hSw.1).outer k hlt; have l2 := (HL2.out _ hSw.1).outer k hlt; have f1 := ((HL1.out _ hSw.1).cell hlt hlq).1; have f2 := ((HL2.out _ hSw.1).cell hlt hlq).1; go_simp; try with_reducible rfl)
          refine kSK 8 hHeld ?_
          refine kHK (v := ?_) 9 hHeld ?y10 ?_
          case y10 => (intro W hSw; obtain ⟨q0, q1, q2, q3⟩ := cell4 hSw.2.1; obtain ⟨r0, r1, r2, r3⟩ := cell4 hSw.2.2; obtain ⟨⟨x0, x1, x2, x3, x4, x5, x6, x7, x8⟩, _⟩ := row9 (HX1.out _ hSw.1); obtain ⟨⟨y0, y1, y2, y3, y4, y5, y6, y7, y8⟩, _⟩ := row9 (HX2.out _ hSw.1); have l1 := (HL1.out _ hSw.1).outer k hlt; have l2 := (HL2.out _ hSw.1).outer k hlt; have f1 := ((HL1.out _ hSw.1).cell hlt hlq).1; have f2 := ((HL2.out _ hSw.1).cell hlt hlq).1; go_simp; try with_reducible rfl)
          try refine kNK ?_
          refine kSK 10 hHeld ?_
          refine kSK 11 hHeld ?_
          refine kSK 12 hHeld ?_
          refine kSK 13 hHeld ?_
          refine kHK (v := ?_) 14 hHeld ?y15 ?_
          case y15 => (intro W hSw; obtain ⟨q0, q1, q2, q3⟩ := cell4 hSw.2.1; obtain ⟨r0, r1, r2, r3⟩ := cell4 hSw.2.2; obtain ⟨⟨x0, x1, x2, x3, x4, x5, x6, x7, x8⟩, _⟩ := row9 (HX1.out _ hSw.1); obtain ⟨⟨y0, y1, y2, y3, y4, y5, y6, y7, y8⟩, _⟩ := row9 (HX2.out _ hSw.1); have l1 := (HL1.out _ hSw.1).outer k hlt; have l2 := (HL2.out _ hSw.1).outer k hlt; have f1 := ((HL1.out _ hSw.1).cell hlt hlq).1; have f2 := ((HL2.out _ hSw.1).cell hlt hlq).1; go_simp; try with_reducible rfl)
          try refine kNK ?_
          refine kSK 15 hHeld ?_
          refine kSK 16 hHeld ?_
          refine kHK (v := ?_) 17 hHeld ?y18 ?_
          case y18 => (intro W hSw; obtain ⟨q0, q1, q2, q3⟩ := cell4 hSw.2.1; obtain ⟨r0, r1, r2, r3⟩ := cell4 hSw.2.2; obtain ⟨⟨x0, x1, x2, x3, x4, x5, x6, x7, x8⟩, _⟩ := row9 (HX1.out _ hSw.1); obtain ⟨⟨y0, y1, y2, y3, y4, y5, y6, y7, y8⟩, _⟩ := row9 (HX2.out _ hSw.1); have l1 := (HL1.out _ hSw.1).outer k hlt; have l2 := (HL2.out _ hSw.1).outer k hlt; have f1 := ((HL1.out _ hSw.1).cell hlt hlq).1; have f2 := ((HL2.out _ hSw.1).cell hlt hlq).1; go_simp; try with_reducible rfl)
          refine kSK 18 hHeld ?_
          refine kSK 19 hHeld ?_
          try refine kNK ?_
          refine kHK (v := ?_) 20 hHeld ?y21 ?_
          case y21 => (intro W hSw; obtain ⟨q0, q1, q2, q3⟩ := cell4 hSw.2.1; obtain ⟨r0, r1, r2, r3⟩ := cell4 hSw.2.2; obtain ⟨⟨x0, x1, x2, x3, x4, x5, x6, x7, x8⟩, _⟩ := row9 (HX1.out _ hSw.1); obtain ⟨⟨y0, y1, y2, y3, y4, y5, y6, y7, y8⟩, _⟩ := row9 (HX2.out _ hSw.1); have l1 := (HL1.out _ hSw.1).outer k hlt; have l2 := (HL2.out _ hSw.1).outer k hlt; have f1 := ((HL1.out _ hSw.1).cell hlt hlq).1; have f2 := ((HL2.out _ hSw.1).cell hlt hlq).1; go_simp; try with_reducible rfl)
          refine kSK 21 hHeld ?_
          refine kHK (v := ?_) 22 hHeld ?y23 ?_
          case y23 => (intro W hSw; obtain ⟨q0, q1, q2, q3⟩ := cell4 hSw.2.1; obtain ⟨r0, r1, r2, r3⟩ := cell4 hSw.2.2; obtain ⟨⟨x0, x1, x2, x3, x4, x5, x6, x7, x8⟩, _⟩ := row9 (HX1.out _ hSw.1); obtain ⟨⟨y0, y1, y2, y3, y4, y5, y6, y7, y8⟩, _⟩ := row9 (HX2.out _ hSw.1); have l1 := (HL1.out _ hSw.1).outer k hlt; have l2 := (HL2.out _ hSw.1).outer k hlt; have f1 := ((HL1.out _ hSw.1).cell hlt hlq).1; have f2 := ((HL2.out _ hSw.1).cell hlt hlq).1; go_simp; try with_reducible rfl)
          refine kSK 23 hHeld ?_
          refine kSK 24 hHeld ?_
          try refine kNK ?_
          refine kHK (v := ?_) 25 hHeld ?y26 ?_
          case y26 => (intro W hSw; obtain ⟨q0, q1, q2, q3⟩ := cell4 hSw.2.1; obtain ⟨r0, r1, r2, r3⟩ := cell4 hSw.2.2; obtain ⟨⟨x0, x1, x2, x3, x4, x5, x6, x7, x8⟩, _⟩ := row9 (HX1.out _ hSw.1); obtain ⟨⟨y0, y1, y2, y3, y4, y5, y6, y7, y8⟩, _⟩ := row9 (HX2.out _ hSw.1); have l1 := (HL1.out _ hSw.1).outer k hlt; have l2 := (HL2.out _ hSw.1).outer k hlt; have f1 := ((HL1.out _ hSw.1).cell hlt hlq).1; have f2 := ((HL2.out _ hSw.1).cell hlt hlq).1; go_simp; try with_reducible rfl)
          refine kSK 26 hHeld ?_
          refine kSK 27 hHeld ?_
          refine kHK (v := ?_) 28 hHeld ?y29 ?_
          case y29 => (intro W hSw; obtain ⟨q0, q1, q2, q3⟩ := cell4 hSw.2.1; obtain ⟨r0, r1, r2, r3⟩ := cell4 hSw.2.2; obtain ⟨⟨x0, x1, x2, x3, x4, x5, x6, x7, x8⟩, _⟩ := row9 (HX1.out _ hSw.1); obtain ⟨⟨y0, y1, y2, y3, y4, y5, y6, y7, y8⟩, _⟩ := row9 (HX2.out _ hSw.1); have l1 := (HL1.out _ hSw.1).outer k hlt; have l2 := (HL2.out _ hSw.1).outer k hlt; have f1 := ((HL1.out _ hSw.1).cell hlt hlq).1; have f2 := ((HL2.out _ hSw.1).cell hlt hlq).1; go_simp; try with_reducible rfl)
          refine kSK 29 hHeld ?_
          try refine kNK ?_
          refine kSK 30 hHeld ?_
          try refine kNK ?_
          refine wpAnyK_done (by kernel_rfl) ?_ _
          refine NoPanic.normal ?_
          go_wp2_with fail
          exact ⟨⟨q + 1, by omega, rfl, rfl, (HST.out _).1⟩, by simp [intOf]; omega⟩
        · obtain rfl : q = x.S.D.C := by omega
          clear hb
          go_wp2_with fail
          exact ⟨⟨k + 1, by omega, rfl, rfl, HB.out⟩, by simp [intOf]; omega⟩
    · obtain rfl : k = x.S.D.R := by omega
      clear hb
      go_wp2_with fail
      go_ret2
      exact ⟨rfl, HBW.out.trans (HB.out.mono HBW.out.size)⟩
end Go.Proofs.YtliacdaddncmaaaGreatDoor
