import Derived.Test.YtmgeghoalmonoaaGreatDoorSG
import Derived.Test.YtmgeghoalmonoaaGreatDoorRF

/- The law AnsiBounds, whole: for all sizes and texts it answers true. -/
namespace Go.Proofs.YtmgeghoalmonoaaGreatDoor
open Go.RowKit
set_option linter.unusedSimpArgs false
set_option linter.unusedVariables false
set_option maxRecDepth 100000
attribute [local go_sem] alloc_drewN setCell_drewN World.cell?_alloc_some frozen_alloc_some size_f0 size_f1 pos_f1

theorem byte_runL (l : List UInt8) (k : Nat) (h : k < l.length) (W : World) : Sem.run Tryz.prog (Instr.slice 9 (.string ⟨l.toArray⟩) (some (.int .i64 (k : Int))) (some (.int .i64 ((k : Int) + 1))) none) W = .ok (.string ⟨[l[k]].toArray⟩) W := by
 have hz : (⟨l.toArray⟩ : ByteArray).size = l.length := by simp [ByteArray.size]
 have e : (⟨l.toArray⟩ : ByteArray).extract k (k + 1) = ⟨[l[k]].toArray⟩ := by
  apply ByteArray.ext
  rw [ByteArray.data_extract]
  apply Array.toList_inj.1
  rw [Array.toList_extract, List.extract_eq_take_drop]
  show List.take (k + 1 - k) (List.drop k l) = [l[k]]
  rw [show k + 1 - k = 1 by omega, List.drop_eq_getElem_cons h]
  rfl
 have := run_slice_string (P := Tryz.prog) W 9 ⟨l.toArray⟩ .i64 .i64 k (k + 1) Tryz.underlying9 (by omega) (by omega) (by omega)
 rw [show ((k : Int)).toNat = k by omega, show ((k : Int) + 1).toNat = k + 1 by omega, e] at this
 exact this
theorem RowsAt.cell4 {B : Nat} {W : World} {OB : Nat} {D : Vz.Gd} {G K : Nat → Nat} (h : RowsAt B W OB D G K) {i j : Nat} (hi : i < D.R) (hj : j < D.C) : W.cell? ⟨OB, i, none⟩ = some (.slice (some ⟨G i, 0, none⟩) D.C (K i)) ∧ W.cell? ⟨G i, j * 4, none⟩ = some (.int .i32 (D.X i j).g) ∧ W.cell? ⟨G i, j * 4 + 1, none⟩ = some (.int .i64 (D.X i j).a) ∧ W.cell? ⟨G i, j * 4 + 2, none⟩ = some (.bool (D.X i j).gd) ∧ W.cell? ⟨G i, j * 4 + 3, none⟩ = some (.int .i64 (D.X i j).m) := by
 have hr := h.row i hi
 refine ⟨h.outer.cell hi, ?_, ?_, ?_, ?_⟩
 · rw [hr.cell (show j * 4 < D.C * 4 by omega), Nat.mul_comm j 4, Vz.flatC_0]
 · rw [hr.cell (show j * 4 + 1 < D.C * 4 by omega), Nat.mul_comm j 4, Vz.flatC_1]
 · rw [hr.cell (show j * 4 + 2 < D.C * 4 by omega), Nat.mul_comm j 4, Vz.flatC_2]
 · rw [hr.cell (show j * 4 + 3 < D.C * 4 by omega), Nat.mul_comm j 4, Vz.flatC_3]
/-- What holds of the terminal behind k bytes. -/
def BdA (R C k : Nat) (A : An) : Prop := OkA 50 A ∧ (A.S.D.R = R ∧ A.S.D.C = C) ∧ A.lost ≤ k
theorem BdA.next {R C k : Nat} {A : An} (h : BdA R C k A) (b : UInt8) : BdA R C (k + 1) (feedN A [b]) := by
 obtain ⟨h1, h2, h3⟩ := h
 have hd := feedN_dims [b] A
 refine ⟨OkA.feed [b] A h1, ⟨hd.1.1.trans h2.1, hd.1.2.trans h2.2⟩, ?_⟩
 have := hd.2
 simp only [List.length_singleton] at this
 omega
theorem BdA.new (R C : Nat) : BdA R C 0 (newN R C 50) := ⟨OkA.new R C, ⟨rfl, rfl⟩, Nat.le_refl _⟩
set_option maxHeartbeats 16000000 in
theorem law_anb_main (R C : Nat) (hf : smallS R C = true) (l : List UInt8) (hl : l.length ≤ 800) (w : World) (hbl : Blanked w) : Calls Tryz.prog 5 #[.agg #[.int .i64 R, .int .i64 C], .string ⟨l.toArray⟩] w fun e w' => e = .returned (.bool true) ∧ Below w.heap.size w w' := by
 have hf' : 1 ≤ (R : Int) ∧ (R : Int) ≤ 30 ∧ 1 ≤ (C : Int) ∧ (C : Int) ≤ 40 := of_decide_eq_true hf
 have hm : Vz.mayS R C = true := (Vz.mayS_iff _ _).2 (by omega)
 have HAW := Lib.hid (fun W (hb : Below w.heap.size w W) => awake_any W (hbl.below hb))
 have HN := Lib.hid (fun W (hb : Below w.heap.size w W) => made_ok R C 50 hm (by decide) (by decide) W (hbl.below hb))
 have HFW := Lib.hid (fun W => hf ▸ small_any R C W)
 have hx := heap_alloc_new w (.cells #[.int .i64 R, .int .i64 C] 23)
 have HX0 := Lib.hid hx
 obtain ⟨x0, x1, g0, g1⟩ := row2 hx
 have HB0 := Lib.hid (below1 w (.cells #[.int .i64 R, .int .i64 C] 23))
 have h1' : ¬ (800 < (l.length : Int)) := by omega
 have hz1 : (⟨l.toArray⟩ : ByteArray).size = l.length := by simp [ByteArray.size]
 clear hbl hx hf hm g0 g1
 go_enter Tryz.func5, Tryz.ntmps5
 go_wp2_with (first
  | (go_at_call 7; refine (HFW.out _).mono ?_; rintro e w1 ⟨rfl, hb1⟩; have HB1 := Lib.hid (Below.later HB0.out hb1 HB0.out.size); have HX1 := Lib.hid ((hb1.block _ (block_lt HX0.out)).trans HX0.out); clear x0 x1; obtain ⟨x0, x1, _⟩ := row2 HX1.out; clear hb1)
  | (go_at_call 9; refine (HN.out _ HB1.out).mono ?_; rintro e w2 ⟨wp, P, G, rfl, hmd⟩; clear x0 x1; obtain ⟨c0, c1, c2⟩ := hmd.cells; have HM2 := Lib.hid hmd; clear hmd))
 have HA0 := Lib.hid (BdA.new R C)
 generalize newN R C 50 = A0 at *
 clear c0 c1 c2
 go_loopw [7] (fun i wr => ∃ (k : Nat) (A : An) (G : Nat → Prop), k ≤ l.length ∧ i = .int .i64 (k : Int) ∧ BdA R C k A ∧ MadeA w1 wr wp P G A) (fun i _ => l.length - (intOf i).toNat)
 case atStart => exact ⟨0, A0, G, Nat.zero_le _, rfl, HA0.out, HM2.out⟩
 case round =>
  obtain ⟨k, A, G, hk, rfl, hA, hM⟩ := hrel
  have HA := Lib.hid hA
  have HM := Lib.hid hM
  have HBW := Lib.hid (Below.later HB1.out hM.bel HB1.out.size)
  obtain ⟨c0, c1, c2⟩ := hM.cells
  clear hA hM
  by_cases hlt : k < l.length
  · have hkz : (k : Int) < (l.length : Int) := by omega
    have hwk : IntKind.i64.wrap ((k : Int) + 1) = (k : Int) + 1 := by rw [wrap_in (by omega) (by omega)]
    have hsl := fun W => byte_runL l k hlt W
    generalize l[k] = b at hsl
    clear c0 c1 c2
    have HBD : Hid (Below wr.heap.size wr wr.drew) := (Below.refl _ _).drew
    have HMB : Hid (∀ W, Below wr.heap.size wr W → MadeA w1 W wp P G A) := fun W hb => HM.out.below hb
    have HFD : Hid (∀ W, Below wr.heap.size wr W → Calls Tryz.prog 10 #[.pointer (some ⟨P.tp, 0, none⟩), .string ⟨[b].toArray⟩] W fun e w' => e = .returned (.tuple #[]) ∧ ∃ G', MadeA w1 w' wp P G' (feedN A [b])) := fun W hb => by
     have hA := HA.out
     refine made_feed (HM.out.below hb) ⟨?_, ?_⟩ ⟨[b].toArray⟩ ?_
     · rw [hA.2.1.1]; omega
     · rw [hA.2.1.2]; omega
     · have := hA.2.2
       show A.lost + 1 ≤ 90000
       omega
    have HA' := Lib.hid (HA.out.next b)
    generalize feedN A [b] = A' at HFD HA'
    go_upto_region 9 with fail
    refine wp_region_noPanic ?_
    refine wp_region_k (S := fun W : World => Below wr.heap.size wr W) 9 (by kernel_rfl) (HBD.out) (fun hHeld => ?_)
    refine kSK 0 hHeld ?_
    refine kSK 1 hHeld ?_
    refine kSK 2 hHeld ?_
    refine kTK (v := ?_) 3 [] hHeld ?y4 ?_
    case y4 => (intro W hSw; obtain ⟨y0, y1, y2⟩ := (HMB.out _ hSw).cells; go_simp; try with_reducible rfl)
    refine kSK 4 hHeld ?_
    try refine kNK ?_
    refine kSK 5 hHeld ?_
    refine kSK 6 hHeld ?_
    refine kSK 7 hHeld ?_
    refine kSK 8 hHeld ?_
    try refine kNK ?_
    refine kPK 9 fun KQ hKQ => ?_
    go_simp
    go_at_call 10
    refine (HFD.out _ hHeld).mono ?_
    rintro e w7 ⟨rfl, G7, hmd⟩
    obtain ⟨y0, y1, y2⟩ := hmd.cells
    have HM7 := Lib.hid hmd
    clear hmd
    go_wp2_with fail
    refine hKQ.out _ _ ?_
    clear hKQ KQ
    try refine kNK ?_
    refine wpAnyK_done (by kernel_rfl) ?_ _
    refine NoPanic.normal ?_
    clear hHeld hsl
    have hpq := made_pend HM7.out
    have hlq := (made_len HM7.out).1
    rw [HA'.out.1.1] at hlq
    have hhr := HM7.out.an.here.1
    rw [HA'.out.2.1.1, HA'.out.2.1.2] at hhr
    obtain ⟨r0, r1, r2, r3⟩ := hhr
    have r0' : ¬ A'.S.pl.at_.row < 0 := by omega
    have r1' : ¬ (R : Int) ≤ A'.S.pl.at_.row := by omega
    have r2' : ¬ A'.S.pl.at_.col < 0 := by omega
    have r3' : ¬ (C : Int) ≤ A'.S.pl.at_.col := by omega
    have hpz : (⟨(pendN A').toArray⟩ : ByteArray).size = (pendN A').length := by simp [ByteArray.size]
    have hp3 : ¬ 63 < ((pendN A').length : Int) := by omega
    have hq5 : ¬ 50 < ((A'.q).length : Int) := by omega
    clear r0 r1 r2 r3 hpq hlq
    go_upto_region 12 with (first
     | (go_at_call 13; refine (made_cursor HM7.out).mono ?_; rintro e w8 ⟨rfl, hb8⟩; have HB8 := Lib.hid hb8; have hy8 := heap_alloc_new w8 (.cells #[.int .i64 A'.S.pl.at_.row, .int .i64 A'.S.pl.at_.col] 39); have HY8 := Lib.hid hy8; have HB8a := Lib.hid (HB8.out.alloc HB8.out.size (.cells #[.int .i64 A'.S.pl.at_.row, .int .i64 A'.S.pl.at_.col] 39)); clear y0 y1 y2 hb8 hy8; obtain ⟨y0, y1, y2⟩ := (HM7.out.below HB8a.out).cells)
     | (go_at_call 16; refine (made_used (HM7.out.below HB8a.out)).mono ?_; rintro e w9 ⟨u, o, hu, rfl, hb9⟩; have HU := Lib.hid hu; have HB9 := Lib.hid (Below.later HB8a.out hb9 HB8a.out.size); have HY9 := Lib.hid ((hb9.block _ (block_lt HY8.out)).trans HY8.out); clear y0 y1 y2 hb9 hu))
    have HM9 := Lib.hid (HM7.out.below HB9.out)
    obtain ⟨y0, y1, y2⟩ := HM9.out.cells
    obtain ⟨p0, p1, _⟩ := row2 HY9.out
    obtain ⟨s0, s1, _⟩ := row2 ((HM9.out.bel.block _ (block_lt HX1.out)).trans HX1.out)
    have hu4 : ¬ 4096 < (u : Int) := by have := HU.out; omega
    go_wp2_with (first
     | (go_at_call 17; refine (made_pending HM9.out).mono ?_; rintro e w10 ⟨rfl, rfl⟩)
     | (go_at_call 18; refine ((made_len HM9.out).2).mono ?_; rintro e w10 ⟨rfl, rfl⟩))
    exact ⟨⟨k + 1, A', G7, by omega, rfl, HA'.out, HM9.out⟩, by simp [intOf]; omega⟩
  · obtain rfl : k = l.length := by omega
    have hA := HA.out
    have HDR := Lib.hid hA.2.1.1
    have HDC := Lib.hid hA.2.1.2
    have HOK : Hid (∀ i j, OkC (A.S.D.X i j)) := hA.1.2.2
    have HPD : Hid (pendN (dropN A) = []) := by show _ = _; unfold pendN; exact if_pos rfl
    clear hA
    go_upto_region 15 with (go_at_call 14; refine (made_rows HM.out).mono ?_; rintro e w8 ⟨OB, GR, KR, rfl, hr8, hb8⟩; have HR8 := Lib.hid hr8; have HB8 := Lib.hid hb8; clear hr8 hb8)
    clear c0 c1 c2
    rw [HDR.out]
    have HRW := Lib.hid (fun W (hb : Below w8.heap.size w8 W) => HR8.out.below hb)
    have HBR0 : Hid (Below w8.heap.size w8 w8) := Below.refl _ _
    go_wp2_with fail
    go_loopw [13] (fun i wr => ∃ r : Nat, r ≤ R ∧ i = .int .i64 (r : Int) ∧ Below w8.heap.size w8 wr) (fun i _ => R - (intOf i).toNat)
    case atStart => exact ⟨0, Nat.zero_le _, rfl, HBR0.out⟩
    case round =>
     obtain ⟨r, hr, rfl, hq⟩ := hrel
     have HQ := Lib.hid hq
     clear hq
     by_cases hlr : r < R
     · have hri : (r : Int) < (R : Int) := by omega
       have hwr : IntKind.i64.wrap ((r : Int) + 1) = ((r + 1 : Nat) : Int) := by rw [wrap_in (by omega) (by omega)]; rfl
       have hlr' : r < A.S.D.R := by rw [HDR.out]; exact hlr
       go_wp2_with fail
       go_loopw [14] (fun j wr => ∃ q : Nat, q ≤ C ∧ j = .int .i64 (q : Int) ∧ Below w8.heap.size w8 wr) (fun j _ => C - (intOf j).toNat)
       case atStart => exact ⟨0, Nat.zero_le _, rfl, HQ.out⟩
       case round =>
        obtain ⟨q, hqc, rfl, hq⟩ := hrel
        have HQ2 := Lib.hid hq
        have hC0 : 0 < A.S.D.C := by rw [HDC.out]; omega
        obtain ⟨o0, _⟩ := (HRW.out _ hq).cell4 hlr' hC0
        rw [HDC.out] at o0
        clear hq
        by_cases hlq : q < C
        · have hqi : (q : Int) < (C : Int) := by omega
          have hwq : IntKind.i64.wrap ((q : Int) + 1) = ((q + 1 : Nat) : Int) := by rw [wrap_in (by omega) (by omega)]; rfl
          have hlq' : q < A.S.D.C := by rw [HDC.out]; exact hlq
          obtain ⟨_, a0, a1, a2, a3⟩ := (HRW.out _ HQ2.out).cell4 hlr' hlq'
          have hok := HOK.out r q
          generalize A.S.D.X r q = x at a0 a1 a2 a3 hok
          obtain ⟨⟨k1, k2⟩, k3, k4⟩ := hok
          rw [k3] at a2
          rw [k4] at a3
          have k1' : ¬ x.a < 0 := by omega
          have k2' : ¬ 16383 < x.a := by omega
          clear k1 k2 k3 k4
          have hy := heap_alloc_new wr (.cells #[.int .i32 x.g, .int .i64 x.a, .bool false, .int .i64 0] 48)
          obtain ⟨u0, u1, u2, u3, _⟩ := row4 hy
          have HB3 := Lib.hid (HQ2.out.alloc HQ2.out.size (.cells #[.int .i32 x.g, .int .i64 x.a, .bool false, .int .i64 0] 48))
          clear hy
          go_wp2_with fail
          exact ⟨⟨q + 1, by omega, rfl, HB3.out⟩, by simp [intOf]; omega⟩
        · obtain rfl : q = C := by omega
          go_wp2_with fail
          exact ⟨⟨r + 1, by omega, rfl, HQ2.out⟩, by simp [intOf]; omega⟩
     · obtain rfl : r = R := by omega
       have HMQ := Lib.hid ((HM.out.below HB8.out).below HQ.out)
       obtain ⟨y0, y1, y2⟩ := HMQ.out.cells
       go_wp2_with (first
        | (go_at_call 19; refine (made_drop HMQ.out).mono ?_; rintro e w11 ⟨rfl, G11, hm11⟩; have HM11 := Lib.hid hm11; clear y0 y1 y2 hm11; obtain ⟨y0, y1, y2⟩ := HM11.out.cells)
        | (go_at_call 17; have hpd := made_pending HM11.out; rw [HPD.out] at hpd; refine hpd.mono ?_; clear hpd; rintro e w12 ⟨rfl, rfl⟩)
        | (go_at_call 8; refine (HAW.out _ (Below.later HB1.out HM11.out.bel HB1.out.size)).mono ?_; rintro e w9 ⟨rfl, hb9⟩; have HB9 := Lib.hid (Below.later (Below.later HB1.out HM11.out.bel HB1.out.size) hb9 (Below.later HB1.out HM11.out.bel HB1.out.size).size); clear hb9))
       go_ret
       exact ⟨rfl, HB9.out⟩
set_option maxHeartbeats 4000000 in
/-- What is not asked: only the chapter's example. -/
theorem law_anb_no (r c : Int) (s : ByteArray) (w : World) (hbl : Blanked w) (h : smallS r c = false ∨ (smallS r c = true ∧ 800 < s.size)) : Calls Tryz.prog 5 #[.agg #[.int .i64 r, .int .i64 c], .string s] w fun e w' => e = .returned (.bool true) ∧ Below w.heap.size w w' := by
 have HAW := Lib.hid (fun W (hb : Below w.heap.size w W) => awake_any W (hbl.below hb))
 have HFW := Lib.hid (fun W => small_any r c W)
 obtain ⟨x0, x1, g0, g1⟩ := row2 (heap_alloc_new w (.cells #[.int .i64 r, .int .i64 c] 23))
 have HB0 := Lib.hid (below1 w (.cells #[.int .i64 r, .int .i64 c] 23))
 clear hbl
 rcases h with h | ⟨h, h2⟩
 · rw [h] at HFW
   go_enter Tryz.func5, Tryz.ntmps5
   go_wp2_with (first
    | (go_at_call 7; refine (HFW.out _).mono ?_; rintro e w1 ⟨rfl, hb1⟩; have HB1 := Lib.hid (Below.later HB0.out hb1 HB0.out.size); clear hb1)
    | (go_at_call 8; refine (HAW.out _ HB1.out).mono ?_; rintro e w9 ⟨rfl, hb9⟩; have HB9 := Lib.hid (Below.later HB1.out hb9 HB1.out.size); clear hb9))
   go_ret
   exact ⟨rfl, HB9.out⟩
 · rw [h] at HFW
   have h2' : 800 < (s.size : Int) := by omega
   go_enter Tryz.func5, Tryz.ntmps5
   go_wp2_with (first
    | (go_at_call 7; refine (HFW.out _).mono ?_; rintro e w1 ⟨rfl, hb1⟩; have HB1 := Lib.hid (Below.later HB0.out hb1 HB0.out.size); clear hb1)
    | (go_at_call 8; refine (HAW.out _ HB1.out).mono ?_; rintro e w9 ⟨rfl, hb9⟩; have HB9 := Lib.hid (Below.later HB1.out hb9 HB1.out.size); clear hb9))
   go_ret
   exact ⟨rfl, HB9.out⟩
theorem law_anb (r c : Int) (s : ByteArray) (w : World) (hbl : Blanked w) : Calls Tryz.prog 5 #[.agg #[.int .i64 r, .int .i64 c], .string s] w fun e w' => e = .returned (.bool true) ∧ Below w.heap.size w w' := by
 cases hf : smallS r c with
 | false => exact law_anb_no r c s w hbl (.inl hf)
 | true =>
   by_cases hm : 800 < s.size
   · exact law_anb_no r c s w hbl (.inr ⟨hf, hm⟩)
   · have hf' : 1 ≤ r ∧ r ≤ 30 ∧ 1 ≤ c ∧ c ≤ 40 := of_decide_eq_true hf
     obtain ⟨R, rfl⟩ := Int.eq_ofNat_of_zero_le (show 0 ≤ r by omega)
     obtain ⟨C, rfl⟩ := Int.eq_ofNat_of_zero_le (show 0 ≤ c by omega)
     have hs : s = (⟨s.data.toList.toArray⟩ : ByteArray) := by cases s; simp
     have hz : s.data.toList.length = s.size := rfl
     rw [hs]
     exact law_anb_main R C hf s.data.toList (by omega) w hbl
end Go.Proofs.YtmgeghoalmonoaaGreatDoor
