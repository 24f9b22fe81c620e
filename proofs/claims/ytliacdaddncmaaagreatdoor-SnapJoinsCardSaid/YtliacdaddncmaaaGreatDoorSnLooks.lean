import Derived.Test.YtliacdaddncmaaaGreatDoorSnLook
import Derived.Test.YtliacdaddncmaaaGreatDoorSnKeep
import Derived.Test.YtliacdaddncmaaaGreatDoorLC

/- Walks: snap.looks: how all cells look. -/
namespace Go.Proofs.YtliacdaddncmaaaGreatDoor
open Go.RowKit
set_option linter.unusedSimpArgs false
set_option linter.unusedVariables false
attribute [local go_sem] alloc_drewN setCell_drewN World.cell?_alloc_some frozen_alloc_some size_f0 size_f1

theorem cell_same {w w' : World} {g o : Nat} (e : w'.heap[g]? = w.heap[g]?) : w'.cell? ⟨g, o, none⟩ = w.cell? ⟨g, o, none⟩ := by
  unfold World.cell?
  rw [e]
theorem addr_add0' (g j : Nat) : (⟨g, 0, none⟩ : Addr).add j = ⟨g, j, none⟩ := by
  unfold Addr.add
  split <;> simp_all
/-- How cells look, in memory: rows of ints. -/
structure LooksAt (B : Nat) (W : World) (g R C : Nat) (L : Nat → Nat → Int) (G : Nat → Nat) : Prop where
  outer : ∀ i, i < R → W.cell? ⟨g, i, none⟩ = some (.slice (some ⟨G i, 0, none⟩) C C)
  ints : IntsAt B W C R L G
  lt : g < W.heap.size
  ge : B ≤ g
  ne : ∀ i, i < R → G i ≠ g
section
variable {B : Nat} {W W' : World} {g R C : Nat} {L L' : Nat → Nat → Int} {G : Nat → Nat}
theorem LooksAt.below (h : LooksAt B W g R C L G) (hb : Below W.heap.size W W') : LooksAt B W' g R C L G :=
  ⟨fun i hi => (hb.cell h.lt).trans (h.outer i hi), h.ints.below hb, Nat.lt_of_lt_of_le h.lt hb.size, h.ge, h.ne⟩
theorem LooksAt.of_blocks (h : LooksAt B W g R C L G) (e : ∀ k, B ≤ k → k < W.heap.size → W'.heap[k]? = W.heap[k]?) (hs : W.heap.size ≤ W'.heap.size) : LooksAt B W' g R C L G :=
  ⟨fun i hi => (cell_same (e _ h.ge h.lt)).trans (h.outer i hi), ⟨fun i hi => (h.ints.row i hi).of_block (e _ (h.ints.ge i hi) (h.ints.row i hi).lt), h.ints.ge, h.ints.mono⟩, Nat.lt_of_lt_of_le h.lt hs, h.ge, h.ne⟩
theorem LooksAt.congr (h : LooksAt B W g R C L G) (e : ∀ i j, i < R → j < C → L i j = L' i j) : LooksAt B W g R C L' G :=
  ⟨h.outer, ⟨fun i hi => (h.ints.row i hi).congr fun j hj => by rw [e i j hi hj], h.ints.ge, h.ints.mono⟩, h.lt, h.ge, h.ne⟩
theorem LooksAt.cell (h : LooksAt B W g R C L G) {i j : Nat} (hi : i < R) (hj : j < C) : W.cell? ⟨G i, j, none⟩ = some (.int .i64 (L i j)) ∧ W.frozen? ⟨G i, j, none⟩ = false := ⟨(h.ints.row i hi).cell hj, (h.ints.row i hi).frozen j⟩
theorem IntsAt.inj {n : Nat} (h : IntsAt B W C n L G) {i j : Nat} (hi : i < n) (hj : j < n) (e : G i = G j) : i = j := by
  rcases Nat.lt_trichotomy i j with hl | hl | hl
  · have := h.mono i j hl hj; omega
  · exact hl
  · have := h.mono j i hl hi; omega
theorem LooksAt.set (h : LooksAt B W g R C L G) {i j : Nat} (hi : i < R) (v : Int) : LooksAt B (W.setCell ⟨G i, j, none⟩ (.int .i64 v)) g R C (fun a b => if a = i ∧ b = j then v else L a b) G := by
  refine ⟨fun k hk => (cell_same (heap_setCell_other _ _ _ _ (fun e => h.ne i hi e.symm))).trans (h.outer k hk), ⟨fun k hk => ?_, h.ints.ge, h.ints.mono⟩, by rw [World.size_setCell]; exact h.lt, h.ge, h.ne⟩
  by_cases e : k = i
  · subst e
    refine ((h.ints.row k hk).set j (.int .i64 v)).congr fun q _ => ?_
    by_cases e2 : q = j
    · rw [if_pos e2, if_pos ⟨rfl, e2⟩]
    · rw [if_neg e2, if_neg (fun h => e2 h.2)]
  · refine ((h.ints.row k hk).of_block (heap_setCell_other _ _ _ _ (fun e' => e (h.ints.inj hk hi e')))).congr fun q _ => ?_
    rw [if_neg (fun h => e h.1)]
end
/-- What the rows hold where those ahead of (k, q) are done. -/
def mixL (p : Int) (D : Vz.Gd) (k q i j : Nat) : Int := if i < k ∨ (i = k ∧ j < q) then lookS p D i j else lookW D i j
theorem or_small {a m : Int} (ha : 0 ≤ a ∧ a ≤ 16383) (hm : 0 ≤ m ∧ m ≤ 63) : bits .or .i64 a m < 9223372036854775808 := by
  obtain ⟨a, rfl⟩ := Int.eq_ofNat_of_zero_le ha.1
  obtain ⟨m, rfl⟩ := Int.eq_ofNat_of_zero_le hm.1
  rw [Vz.or64 a m (by omega) (by omega)]
  have : a ||| m < 2 ^ 14 := Nat.or_lt_two_pow (by omega) (by omega)
  omega
set_option maxRecDepth 100000 in
set_option maxHeartbeats 16000000 in
theorem looks_ok {B0 OB : Nat} {D : Vz.Gd} {G0 K0 : Nat → Nat} {w : World} (p : Int) (h : RowsAt B0 w OB D G0 K0) (hm : D.may) (hx : ∀ i j, CellOk (D.X i j)) :
    Calls Tryz.prog 25 #[.int .i64 p, .slice (some ⟨OB, 0, none⟩) D.R D.R] w fun e w' => ∃ g cap G, e = .returned (.slice (some ⟨g, 0, none⟩) D.R cap) ∧ LooksAt w.heap.size w' g D.R D.C (lookS p D) G ∧ Below w.heap.size w w' := by
  have HLK := Lib.hid (look_ok h hm hx)
  obtain ⟨m1, m2, m3, m4⟩ := hm
  have HR := Lib.hid (fun W (hb : Below w.heap.size w W) => h.below hb)
  have HX := Lib.hid hx
  have HKP := Lib.hid (fun a (ha : a < 9223372036854775808) W => keep_any p a ha W)
  have HMX : Hid (∀ k q i j, mixL p D k q i j = if i < k ∨ (i = k ∧ j < q) then lookS p D i j else lookW D i j) := fun _ _ _ _ => rfl
  have HWB : Hid (∀ i j, lookW D i j < 9223372036854775808) := fun i j => or_small (hx i j).2.1 (markC_ok (hx i) (markR_ok hx i) _)
  have HLS : Hid (∀ i j, lookS p D i j = keepA p (if p = 3 then lookW D i j else (D.X i j).a)) := fun _ _ => rfl
  have HSR := Lib.hid (⟨m1, m2⟩ : 1 ≤ D.R ∧ D.R ≤ 255)
  clear h hx
  go_enter Tryz.func25, Tryz.ntmps25
  go_wp2_with (go_at_call 49; refine HLK.out.mono ?_; rintro e w1 ⟨v, G, rfl, hown, hints, hb1⟩; obtain ⟨g, cap, rfl, hg, hge, hcl⟩ : ∃ g cap, v = .slice (some ⟨g, 0, none⟩) D.R cap ∧ g < w1.heap.size ∧ w.heap.size ≤ g ∧ (∀ i, i < D.R → w1.cell? ⟨g, i, none⟩ = some (.slice (some ⟨G i, 0, none⟩) D.C D.C)) := (by
      rcases hown.2 with ⟨_, h0⟩ | ⟨g, cap, cur, hv, hB, hg, _⟩
      · have := HSR.out; omega
      · refine ⟨g, cap, hv, (Array.getElem?_eq_some_iff.1 hg).1, hB, fun i hi => ?_⟩
        have := hown.cells (g := g) (by rw [hv]; rfl) i (.slice (some ⟨G i, 0, none⟩) D.C D.C) (by simp [rowsI, hi])
        rwa [addr_add0'] at this); have HL1 : Hid (LooksAt w.heap.size w1 g D.R D.C (mixL p D 0 0) G) := (⟨hcl, hints, hg, hge, fun i hi e => hints.apart hown i hi (by show some g = some (G i); rw [e])⟩ : LooksAt w.heap.size w1 g D.R D.C (lookW D) G).congr fun i j _ _ => (by rw [HMX.out, if_neg (by omega)]); have HB1 := Lib.hid hb1; clear hown hints hb1 hcl hg hge)
  go_loopw [14] (fun i wr => ∃ k : Nat, k ≤ D.R ∧ i = .int .i64 (k : Int) ∧ LooksAt w.heap.size wr g D.R D.C (mixL p D k 0) G ∧ Below w.heap.size w wr) (fun i _ => D.R - (intOf i).toNat)
  case atStart => exact ⟨0, Nat.zero_le _, rfl, HL1.out, HB1.out⟩
  case round =>
    obtain ⟨k, hk, rfl, hl, hbw⟩ := hrel
    have HL := Lib.hid hl
    have HBW := Lib.hid hbw
    by_cases hlt : k < D.R
    · have hkz : (k : Int) < (D.R : Int) := by omega
      have hwk : IntKind.i64.wrap ((k : Int) + 1) = ((k + 1 : Nat) : Int) := by rw [wrap_in (by omega) (by omega)]; rfl
      have gk : wr.cell? ⟨OB, k, none⟩ = some (.slice (some ⟨G0 k, 0, none⟩) D.C (K0 k)) := (HR.out _ hbw).outer.cell hlt
      clear hl hbw
      go_wp2_with fail
      go_loopw [21] (fun j wr => ∃ q : Nat, q ≤ D.C ∧ j = .int .i64 (q : Int) ∧ LooksAt w.heap.size wr g D.R D.C (mixL p D k q) G ∧ Below w.heap.size w wr) (fun j _ => D.C - (intOf j).toNat)
      case atStart => exact ⟨0, Nat.zero_le _, rfl, HL.out, HBW.out⟩
      case round =>
        clear gk HL HBW
        obtain ⟨q, hq, rfl, hl, hbw⟩ := hrel
        have HL := Lib.hid hl
        have HBW := Lib.hid hbw
        by_cases hlq : q < D.C
        · have hqz : (q : Int) < (D.C : Int) := by omega
          have hwq : IntKind.i64.wrap ((q : Int) + 1) = ((q + 1 : Nat) : Int) := by rw [wrap_in (by omega) (by omega)]; rfl
          obtain ⟨p0, p1, p2, p3⟩ := (HR.out _ hbw).cellsIn hlt q hlq
          have hca := (HX.out k q).2.1
          have HCX := Lib.hid (HX.out k q)
          have hlw := HWB.out k q
          have hls := HLS.out k q
          have hmx0 : mixL p D k q k q = lookW D k q := by rw [HMX.out, if_neg (by omega)]
          have HMIX : Hid (∀ i j, i < D.R → j < D.C → (if i = k ∧ j = q then lookS p D k q else mixL p D k q i j) = mixL p D k (q + 1) i j) := fun i j _ _ => by
            rw [HMX.out, HMX.out]
            by_cases e : i = k ∧ j = q
            · rw [if_pos e, if_pos (by omega), e.1, e.2]
            · rw [if_neg e]
              by_cases e2 : i < k ∨ (i = k ∧ j < q)
              · rw [if_pos e2, if_pos (by omega)]
              · rw [if_neg e2, if_neg (by omega)]
          clear hl hbw
          generalize hc : D.X k q = c at *
          clear hc
          have HL2 := Lib.hid (HL.out.below (below1 wr (.cells #[.int .i32 c.g, .int .i64 c.a, .bool c.gd, .int .i64 c.m] 47)))
          have HB2 := Lib.hid (HBW.out.alloc HBW.out.size (.cells #[.int .i32 c.g, .int .i64 c.a, .bool c.gd, .int .i64 c.m] 47))
          have HCB := Lib.hid (heap_alloc_new wr (.cells #[.int .i32 c.g, .int .i64 c.a, .bool c.gd, .int .i64 c.m] 47))
          have hz1 := World.size_alloc wr (.cells #[.int .i32 c.g, .int .i64 c.a, .bool c.gd, .int .i64 c.m] 47)
          by_cases hp3 : p = 3
          · have hpb : (p != 3) = false := by rw [hp3]; rfl
            rw [if_pos hp3] at hls
            clear hp3
            go_upto_region 10 with fail
            generalize wr.alloc (.cells #[.int .i32 c.g, .int .i64 c.a, .bool c.gd, .int .i64 c.m] 47) = WA at *
            generalize wr.heap.size = bx at *
            clear p0 p1 p2 p3
            have HLQ := Lib.hid HL2.out
            have HBQ := Lib.hid HB2.out
            have HFIN := Lib.hid HMIX.out
            have HSW := Lib.hid (fun W (hb : Below WA.heap.size WA W) => HLQ.out.below hb)
            have HLE := Lib.hid (HSW.out _ (Below.refl WA.heap.size WA).drew)
            have HBE := Lib.hid HBQ.out.drew
            obtain ⟨s0, s1⟩ := HLE.out.cell hlt hlq
            refine wp_region_noPanic ?_
            refine wp_region_k (S := fun W : World => Below WA.heap.size WA W) 15 (by kernel_rfl) ((Below.refl _ _).drew) (fun hHeld => ?_)
            refine kSK 0 hHeld ?_
            refine kSK 1 hHeld ?_
            refine kSK 2 hHeld ?_
            refine kTK (v := ?_) 3 [] hHeld ?y4 ?_
            case y4 => (intro W hSw; have o0 := (HSW.out _ hSw).outer k hlt; obtain ⟨o1, _⟩ := (HSW.out _ hSw).cell hlt hlq; rw [hmx0] at o1; go_simp; try with_reducible rfl)
            refine kSK 4 hHeld ?_
            try refine kNK ?_
            refine kSK 5 hHeld ?_
            refine kSK 6 hHeld ?_
            refine kSK 7 hHeld ?_
            refine kSK 8 hHeld ?_
            refine kTK (v := ?_) 9 [] hHeld ?y10 ?_
            case y10 => (intro W hSw; have o0 := (HSW.out _ hSw).outer k hlt; obtain ⟨o1, _⟩ := (HSW.out _ hSw).cell hlt hlq; rw [hmx0] at o1; go_simp; try with_reducible rfl)
            try refine kNK ?_
            refine kSK 10 hHeld ?_
            refine kSK 11 hHeld ?_
            refine kTK (v := ?_) 12 [] hHeld ?y13 ?_
            case y13 => (intro W hSw; have o0 := (HSW.out _ hSw).outer k hlt; obtain ⟨o1, _⟩ := (HSW.out _ hSw).cell hlt hlq; rw [hmx0] at o1; go_simp; try with_reducible rfl)
            try refine kNK ?_
            refine kOK 13 fun KQ hKQ => ?_
            go_simp
            go_at_call 50
            have hkp := HKP.out (lookW D k q) hlw
            rw [← hls] at hkp
            refine (hkp _).mono ?_
            rintro e w2 ⟨rfl, rfl⟩
            go_wp2_with fail
            refine hKQ.out _ _ (hHeld) ?_
            clear hHeld hKQ KQ
            intro hHeld
            try refine kNK ?_
            clear hkp
            refine kSK 14 hHeld ?_
            try refine kNK ?_
            refine kPK 15 fun KQ hKQ => ?_
            generalize WA.drew = WE at *
            go_simp
            refine hKQ.out _ _ ?_
            clear hKQ KQ
            try refine kNK ?_
            refine wpAnyK_done (by kernel_rfl) ?_ _
            refine NoPanic.normal ?_
            go_wp2_with fail
            exact ⟨⟨q + 1, by omega, rfl, (by rw [← hls]; exact (HLE.out.set hlt (lookS p D k q)).congr HFIN.out), HBE.out.setCell (p := ⟨G k, q, none⟩) (HLE.out.ints.ge k hlt) _⟩, by simp [intOf]; omega⟩
          · have hpb : (p != 3) = true := by rw [bne_iff_ne]; exact hp3
            rw [if_neg hp3] at hls
            clear hp3
            go_upto_region 9 with fail
            generalize wr.alloc (.cells #[.int .i32 c.g, .int .i64 c.a, .bool c.gd, .int .i64 c.m] 47) = WA at *
            generalize wr.heap.size = bx at *
            clear p0 p1 p2 p3
            have HSW9 := Lib.hid (fun W (hb : Below WA.heap.size WA W) => HL2.out.below hb)
            have HCW := Lib.hid (fun W (hb : Below WA.heap.size WA W) => (hb.block _ (block_lt HCB.out)).trans HCB.out)
            have HLE9 := Lib.hid (HSW9.out _ (Below.refl WA.heap.size WA).drew)
            have HBE9 := Lib.hid HB2.out.drew
            obtain ⟨t0, t1⟩ := HLE9.out.cell hlt hlq
            refine wp_region_noPanic ?_
            refine wp_region_k (S := fun W : World => Below WA.heap.size WA W) 8 (by kernel_rfl) ((Below.refl _ _).drew) (fun hHeld => ?_)
            refine kSK 0 hHeld ?_
            refine kSK 1 hHeld ?_
            refine kSK 2 hHeld ?_
            refine kTK (v := ?_) 3 [] hHeld ?y4 ?_
            case y4 => (intro W hSw; have o0 := (HSW9.out _ hSw).outer k hlt; obtain ⟨_, o1, _⟩ := row4 (HCW.out _ hSw); go_simp; try with_reducible rfl)
            refine kSK 4 hHeld ?_
            try refine kNK ?_
            refine kSK 5 hHeld ?_
            refine kTK (v := ?_) 6 [] hHeld ?y7 ?_
            case y7 => (intro W hSw; have o0 := (HSW9.out _ hSw).outer k hlt; obtain ⟨_, o1, _⟩ := row4 (HCW.out _ hSw); go_simp; try with_reducible rfl)
            refine kSK 7 hHeld ?_
            try refine kNK ?_
            refine kPK 8 fun KQ hKQ => ?_
            generalize WA.drew = WE9 at *
            go_simp
            refine hKQ.out _ _ ?_
            clear hKQ KQ
            try refine kNK ?_
            refine wpAnyK_done (by kernel_rfl) ?_ _
            refine NoPanic.normal ?_
            have HLQ := Lib.hid (HLE9.out.set (j := q) hlt c.a)
            have HBQ := Lib.hid (HBE9.out.setCell (p := ⟨G k, q, none⟩) (HLE9.out.ints.ge k hlt) (.int .i64 c.a))
            have hl1 : (if k = k ∧ q = q then c.a else mixL p D k q k q) = c.a := by rw [if_pos ⟨rfl, rfl⟩]
            have HFIN : Hid (∀ i j, i < D.R → j < D.C → (if i = k ∧ j = q then lookS p D k q else if i = k ∧ j = q then c.a else mixL p D k q i j) = mixL p D k (q + 1) i j) := fun i j hi hj => by
              rw [← HMIX.out i j hi hj]
              by_cases e : i = k ∧ j = q
              · rw [if_pos e, if_pos e]
              · rw [if_neg e, if_neg e, if_neg e]
            have hab : c.a < 9223372036854775808 := by omega
            clear t0 t1
            generalize WE9.setCell ⟨G k, q, none⟩ (.int .i64 c.a) = WS at *
            go_upto_region 10 with fail
            have HSW := Lib.hid (fun W (hb : Below WS.heap.size WS W) => HLQ.out.below hb)
            have HLE := Lib.hid (HSW.out _ (Below.refl WS.heap.size WS).drew)
            have HBE := Lib.hid HBQ.out.drew
            obtain ⟨s0, s1⟩ := HLE.out.cell hlt hlq
            refine wp_region_noPanic ?_
            refine wp_region_k (S := fun W : World => Below WS.heap.size WS W) 15 (by kernel_rfl) ((Below.refl _ _).drew) (fun hHeld => ?_)
            refine kSK 0 hHeld ?_
            refine kSK 1 hHeld ?_
            refine kSK 2 hHeld ?_
            refine kTK (v := ?_) 3 [] hHeld ?y4 ?_
            case y4 => (intro W hSw; have o0 := (HSW.out _ hSw).outer k hlt; obtain ⟨o1, _⟩ := (HSW.out _ hSw).cell hlt hlq; rw [hl1] at o1; go_simp; try with_reducible rfl)
            refine kSK 4 hHeld ?_
            try refine kNK ?_
            refine kSK 5 hHeld ?_
            refine kSK 6 hHeld ?_
            refine kSK 7 hHeld ?_
            refine kSK 8 hHeld ?_
            refine kTK (v := ?_) 9 [] hHeld ?y10 ?_
            case y10 => (intro W hSw; have o0 := (HSW.out _ hSw).outer k hlt; obtain ⟨o1, _⟩ := (HSW.out _ hSw).cell hlt hlq; rw [hl1] at o1; go_simp; try with_reducible rfl)
            try refine kNK ?_
            refine kSK 10 hHeld ?_
            refine kSK 11 hHeld ?_
            refine kTK (v := ?_) 12 [] hHeld ?y13 ?_
            case y13 => (intro W hSw; have o0 := (HSW.out _ hSw).outer k hlt; obtain ⟨o1, _⟩ := (HSW.out _ hSw).cell hlt hlq; rw [hl1] at o1; go_simp; try with_reducible rfl)
            try refine kNK ?_
            refine kOK 13 fun KQ hKQ => ?_
            go_simp
            go_at_call 50
            have hkp := HKP.out (c.a) hab
            rw [← hls] at hkp
            refine (hkp _).mono ?_
            rintro e w2 ⟨rfl, rfl⟩
            go_wp2_with fail
            refine hKQ.out _ _ (hHeld) ?_
            clear hHeld hKQ KQ
            intro hHeld
            try refine kNK ?_
            clear hkp
            refine kSK 14 hHeld ?_
            try refine kNK ?_
            refine kPK 15 fun KQ hKQ => ?_
            generalize WS.drew = WE at *
            go_simp
            refine hKQ.out _ _ ?_
            clear hKQ KQ
            try refine kNK ?_
            refine wpAnyK_done (by kernel_rfl) ?_ _
            refine NoPanic.normal ?_
            go_wp2_with fail
            exact ⟨⟨q + 1, by omega, rfl, (by rw [← hls]; exact (HLE.out.set hlt (lookS p D k q)).congr HFIN.out), HBE.out.setCell (p := ⟨G k, q, none⟩) (HLE.out.ints.ge k hlt) _⟩, by simp [intOf]; omega⟩
        · obtain rfl : q = D.C := by omega
          clear hl hbw
          go_wp2_with fail
          exact ⟨⟨k + 1, by omega, rfl, HL.out.congr fun i j hi hj => (by rw [HMX.out, HMX.out]; by_cases e : i < k ∨ i = k ∧ j < D.C; rw [if_pos e, if_pos (by omega)]; rw [if_neg e, if_neg (by omega)]), HBW.out⟩, by simp [intOf]; omega⟩
    · obtain rfl : k = D.R := by omega
      clear hl hbw
      go_wp2_with fail
      go_ret
      exact ⟨g, cap, G, rfl, HL.out.congr fun i j hi hj => (by rw [HMX.out, if_pos (by omega)]), HBW.out⟩
end Go.Proofs.YtliacdaddncmaaaGreatDoor
