import Derived.Test.YtncgigapgklhcaaGreatDoorRfS
import Derived.Test.YtncgigapgklhcaaGreatDoorAdmFew

/- The law AdmPlays, whole: for all sizes and texts it answers true. -/
namespace Go.Proofs.YtncgigapgklhcaaGreatDoor
open Go.RowKit
set_option linter.unusedSimpArgs false
set_option linter.unusedVariables false
set_option maxRecDepth 100000
attribute [local go_sem] alloc_drewN setCell_drewN World.cell?_alloc_some frozen_alloc_some size_f0 size_f1

theorem byte_runL (l : List UInt8) (k : Nat) (h : k < l.length) (W : World) : Sem.run Tryz.prog (Instr.slice 9 (.string ⟨l.toArray⟩) (some (.int .i64 (k : Int))) (some (.int .i64 ((k : Int) + 1))) none) W = .ok (.string ⟨[l[k]].toArray⟩) W := by
 have hz : (⟨l.toArray⟩ : ByteArray).size = l.length := by simp [ByteArray.size]
 have e : (⟨l.toArray⟩ : ByteArray).extract k (k + 1) = ⟨[l[k]].toArray⟩ := by
  apply ByteArray.ext
  rw [ByteArray.data_extract]
  apply Array.toList_inj.1
  rw [Array.toList_extract, List.extract_eq_take_drop]
  show List.take (k + 1 - k) (List.drop k l) = [l[k]]
  rw [show k + 1 - k = 1 by omega, List.drop_eq_getElem_cons h]
  rfl
 have := run_slice_string (P := Tryz.prog) W 9 ⟨l.toArray⟩ .i64 .i64 k (k + 1) Tryz.underlying9 (by omega) (by omega) (by omega)
 rw [show ((k : Int)).toNat = k by omega, show ((k : Int) + 1).toNat = k + 1 by omega, e] at this
 exact this
section
variable {w W : World} {wp tp sp qp rp : Nat} {A : Ad} {r : Rf}
theorem pair_same (h : Pair w W wp tp sp qp A rp r) (hR : Rel A r) : Calls Tryz.prog 27 #[.pointer (some ⟨wp, 0, none⟩), .pointer (some ⟨rp, 0, none⟩)] W fun e w' => e = .returned (.bool true) ∧ Pair w w' wp tp sp qp A rp r := by
 have hq := h.okQ.2
 rw [hR.q] at hq
 have h' := h
 obtain ⟨FT, lb, cap, sb, h⟩ := h
 exact (same_ok h.box (same_of h.t hR) h.r hR.may hq).mono fun e w' g => ⟨g.1, h'.below g.2⟩
/-- A byte of the program's one, and of the document's. -/
theorem pair_step (h : Pair w W wp tp sp qp A rp r) (hR : Rel A r) (b : UInt8) : Rel (feedA A [b]) (byteR r b) := (hR.byte (hR.seq ▸ h.okQ.1) b).1
end
set_option maxHeartbeats 16000000 in
theorem law_apl_main (R C : Nat) (hf : fewS R C = true) (l : List UInt8) (h1 : l.length ≤ 200) (w : World) (hbl : Blanked w) : Calls Tryz.prog 8 #[.agg #[.int .i64 R, .int .i64 C], .string ⟨l.toArray⟩] w fun e w' => e = .returned (.bool true) ∧ Below w.heap.size w w' := by
 have hf' : 1 ≤ (R : Int) ∧ (R : Int) ≤ 6 ∧ 1 ≤ (C : Int) ∧ (C : Int) ≤ 12 := of_decide_eq_true hf
 have hRC : (1 ≤ R ∧ R ≤ 6) ∧ (1 ≤ C ∧ C ≤ 12) := by omega
 have hm : Vz.mayS R C = true := (Vz.mayS_iff _ _).2 (by omega)
 have HAW := Lib.hid (fun W (hb : Below w.heap.size w W) => awake_any W (hbl.below hb))
 have HN := Lib.hid (fun W (hb : Below w.heap.size w W) => made_ok R C hm W (hbl.below hb))
 have HRN := Lib.hid (fun W => rf_new R C hRC.1 hRC.2 20 W)
 have HREL := Lib.hid (Rel.new hRC.1 hRC.2)
 have HFW := Lib.hid (fun W => hf ▸ few_any R C W)
 have hx := heap_alloc_new w (.cells #[.int .i64 R, .int .i64 C] 23)
 have HX0 := Lib.hid hx
 obtain ⟨x0, x1, g0, g1⟩ := row2 hx
 have HB0 := Lib.hid (below1 w (.cells #[.int .i64 R, .int .i64 C] 23))
 have HGL := Lib.hid hbl.lt
 have h1' : ¬ (200 < (l.length : Int)) := by omega
 have hz1 : (⟨l.toArray⟩ : ByteArray).size = l.length := by simp [ByteArray.size]
 clear hbl hx hf hm g0 g1 hRC
 go_enter Tryz.func8, Tryz.ntmps8
 go_wp2_with (first
  | (go_at_call 10; refine (HFW.out _).mono ?_; rintro e w1 ⟨rfl, hb1⟩; have HB1 := Lib.hid (Below.later HB0.out hb1 HB0.out.size); have HX1 := Lib.hid ((hb1.block _ (block_lt HX0.out)).trans HX0.out); clear x0 x1; obtain ⟨x0, x1, _⟩ := row2 HX1.out; clear hb1)
  | (go_at_call 12; refine (HN.out _ HB1.out).mono ?_; rintro e w2 ⟨wp, tp, sp, qp, rfl, hmd⟩; clear x0 x1; obtain ⟨x0, x1, _⟩ := row2 ((hmd.2.2.2.block _ (block_lt HX1.out)).trans HX1.out); have HM2 := Lib.hid hmd; clear hmd)
  | (go_at_call 26; refine (HRN.out _).mono ?_; rintro e w3 ⟨rp, lb, cap, sb, rfl, hr, hl, hb⟩; have HP3 := Lib.hid (Pair.of_made HM2.out hr hl hb (by have := HB1.out.size; have := HGL.out; omega)); clear hr hl hb x0 x1)
  | (go_at_call 27; refine (pair_same HP3.out HREL.out).mono ?_; rintro e w4 ⟨rfl, hp⟩; have HP4 := Lib.hid hp; clear hp))
 clear HX1 HM2 HP3
 generalize newA R C = A0 at *
 generalize newR R C 20 = r0 at *
 go_loopw [7] (fun i wr => ∃ (k : Nat) (A : Ad) (r : Rf), k ≤ l.length ∧ i = .int .i64 (k : Int) ∧ Rel A r ∧ Pair w1 wr wp tp sp qp A rp r) (fun i _ => l.length - (intOf i).toNat)
 case atStart => exact ⟨0, A0, r0, Nat.zero_le _, rfl, HREL.out, HP4.out⟩
 case round =>
  clear HREL HP4
  obtain ⟨k, A, r, hk, rfl, hA, hM⟩ := hrel
  have HA := Lib.hid hA
  have HM := Lib.hid hM
  obtain ⟨c0, c1, c2⟩ := hM.cells
  clear hA
  by_cases hlt : k < l.length
  · have hkz : (k : Int) < (l.length : Int) := by omega
    have hwk : IntKind.i64.wrap ((k : Int) + 1) = (k : Int) + 1 := by rw [wrap_in (by omega) (by omega)]
    have hsl := fun W => byte_runL l k hlt W
    have HGX : Hid ((⟨l.toArray⟩ : ByteArray)[k]'(by show k < l.toArray.size; simpa using hlt) = l[k]) := by
     show l.toArray[k]'(by simpa using hlt) = _
     simp
    have HBD : Hid (Below wr.heap.size wr wr.drew) := (Below.refl _ _).drew
    have HMB : Hid (∀ W, Below wr.heap.size wr W → Pair w1 W wp tp sp qp A rp r) := fun W hb => hM.below hb
    have HCW := Lib.hid (fun W (hb : Below wr.heap.size wr W) => (hM.below hb).cells)
    clear hM
    go_upto_region 10 with fail
    clear c0 c1 c2
    generalize l[k] = b at hsl HGX
    refine wp_region_noPanic ?_
    refine wp_region_k (S := fun W : World => Below wr.heap.size wr W) 9 (by kernel_rfl) (HBD.out) (fun hHeld => ?_)
    refine kSK 0 hHeld ?_
    refine kSK 1 hHeld ?_
    refine kSK 2 hHeld ?_
    refine kTK (v := ?_) 3 [] hHeld ?y4 ?_
    case y4 => (intro W hSw; obtain ⟨y0, y1, y2⟩ := HCW.out _ hSw; go_simp; try with_reducible rfl)
    refine kSK 4 hHeld ?_
    try refine kNK ?_
    refine kSK 5 hHeld ?_
    refine kSK 6 hHeld ?_
    refine kSK 7 hHeld ?_
    refine kSK 8 hHeld ?_
    try refine kNK ?_
    refine kPK 9 fun KQ hKQ => ?_
    go_simp
    go_at_call 13
    refine (pair_feed (HMB.out _ hHeld) [b] (by simp)).mono ?_
    rintro e w7 ⟨rfl, hp⟩
    have HP7 := Lib.hid hp
    clear hp
    go_wp2_with fail
    refine hKQ.out _ _ ?_
    clear hKQ KQ
    try refine kNK ?_
    refine wpAnyK_done (by kernel_rfl) ?_ _
    refine NoPanic.normal ?_
    clear hHeld hsl
    have HR2 := Lib.hid (pair_step HM.out HA.out b)
    have hwk2 : IntKind.i64.wrap ((k : Int) + 1) = ((k + 1 : Nat) : Int) := by rw [wrap_in (by omega) (by omega)]; rfl
    have HBY := Lib.hid (pair_byte HP7.out HA.out HM.out.okQ b)
    clear hwk
    generalize feedA A [b] = A2 at *
    generalize byteR r b = r2 at *
    go_wp2_with (first
     | (go_at_call 28; rw [HGX.out]; refine HBY.out.mono ?_; rintro e w8 ⟨rfl, hp⟩; have HP8 := Lib.hid hp; clear hp)
     | (go_at_call 27; refine (pair_same HP8.out HR2.out).mono ?_; rintro e w9 ⟨rfl, hp⟩; have HP9 := Lib.hid hp; clear hp))
    exact ⟨⟨k + 1, A2, r2, by omega, rfl, HR2.out, HP9.out⟩, by simp [intOf]; omega⟩
  · obtain rfl : k = l.length := by omega
    have HBD : Hid (Below wr.heap.size wr wr.drew) := (Below.refl _ _).drew
    have HMB : Hid (∀ W, Below wr.heap.size wr W → Pair w1 W wp tp sp qp A rp r) := fun W hb => hM.below hb
    obtain ⟨Q, hQ⟩ : ∃ Q : ByteArray, (⟨r.q.toArray⟩ : ByteArray) = Q := ⟨_, rfl⟩
    have HCW : Hid (∀ W, Below wr.heap.size wr W → W.cell? ⟨wp, 1, none⟩ = some (.pointer (some ⟨qp, 0, none⟩)) ∧ W.cell? ⟨rp, 10, none⟩ = some (.string Q)) := fun W hb => by
     have h1 := (hM.below hb).cells
     have h2 := (hM.below hb).rcells
     rw [hQ] at h2
     exact ⟨h1.2.1, h2.2.1⟩
    have HDR : Hid (∀ W, Below wr.heap.size wr W → Calls Tryz.prog 15 #[.pointer (some ⟨qp, 0, none⟩)] W fun e w' => e = .returned (.string Q) ∧ Pair w1 w' wp tp sp qp { A with q := [], over := false } rp r) := fun W hb => by
     have := pair_drain (hM.below hb)
     rw [HA.out.q, hQ] at this
     exact this
    have HKP : Hid (∀ W, Pair w1 W wp tp sp qp { A with q := [], over := false } rp r → W.cell? ⟨rp, 10, none⟩ = some (.string Q)) := fun W h => by
     have h2 := h.rcells
     rw [hQ] at h2
     exact h2.2.1
    clear hM hQ
    go_upto_region 14 with fail
    clear c0 c1 c2
    refine wp_region_noPanic ?_
    refine wp_region_k (S := fun W : World => Below wr.heap.size wr W) 4 (by kernel_rfl) (HBD.out) (fun hHeld => ?_)
    refine kSK 0 hHeld ?_
    refine kSK 1 hHeld ?_
    refine kSK 2 hHeld ?_
    refine kTK (v := ?_) 3 [] hHeld ?y4 ?_
    case y4 => (intro W hSw; obtain ⟨y1, z10⟩ := HCW.out _ hSw; go_simp; try with_reducible rfl)
    refine kSK 5 hHeld ?_
    try refine kNK ?_
    refine kSK 6 hHeld ?_
    refine kSK 7 hHeld ?_
    try refine kNK ?_
    refine wpAnyK_ready (rs := [4, 8]) (by kernel_rfl) (by simp) ?_
    refine AllReadyK.free rfl (by kernel_rfl) (fun KQ hKQ => ?_) (AllReadyK.cons rfl (fun KQ hKQ => ?_) AllReadyK.nil)
    focus
     go_simp
     go_at_call 15
     refine (HDR.out _ hHeld).mono ?_
     rintro e w7 ⟨rfl, hp⟩
     have HP7 := Lib.hid hp
     have z10 := HKP.out _ hp
     have HB7 := Lib.hid (Below.later HB1.out hp.belowW HB1.out.size)
     clear hp
     go_wp2_with fail
     refine hKQ.out _ _ ?_
     clear hKQ KQ
     try refine kNK ?_
     refine kPK 8 fun KQ hKQ => ?_
     try (have z10 := (HCW.out _ hHeld).2)
     go_simp
     refine hKQ.out _ _ ?_
     clear hKQ KQ
     try refine kNK ?_
     refine kBK 9 ?_
     refine kBK 10 ?_
     try refine kNK ?_
     refine kPK 11 fun KQ hKQ => ?_
     go_simp
     go_at_call 11
     refine (HAW.out _ HB7.out).mono ?_
     rintro e wz ⟨rfl, hbz⟩
     have HBZ := Lib.hid (Below.later HB7.out hbz HB7.out.size)
     clear hbz
     go_wp2_with fail
     refine hKQ.out _ _ ?_
     clear hKQ KQ
     try refine kNK ?_
     refine kBK 12 ?_
     refine kBK 13 ?_
     try refine kNK ?_
     refine wpAnyK_done (by kernel_rfl) ?_ _
     refine NoPanic.normal ?_
    rotate_left 1
    focus
     try (have z10 := (HCW.out _ hHeld).2)
     go_simp
     refine hKQ.out _ _ (hHeld) ?_
     clear hHeld hKQ KQ
     intro hHeld
     try refine kNK ?_
     refine kPK 4 fun KQ hKQ => ?_
     go_simp
     go_at_call 15
     refine (HDR.out _ hHeld).mono ?_
     rintro e w7 ⟨rfl, hp⟩
     have HP7 := Lib.hid hp
     have z10 := HKP.out _ hp
     have HB7 := Lib.hid (Below.later HB1.out hp.belowW HB1.out.size)
     clear hp
     go_wp2_with fail
     refine hKQ.out _ _ ?_
     clear hKQ KQ
     try refine kNK ?_
     refine kBK 9 ?_
     refine kBK 10 ?_
     try refine kNK ?_
     refine kPK 11 fun KQ hKQ => ?_
     go_simp
     go_at_call 11
     refine (HAW.out _ HB7.out).mono ?_
     rintro e wz ⟨rfl, hbz⟩
     have HBZ := Lib.hid (Below.later HB7.out hbz HB7.out.size)
     clear hbz
     go_wp2_with fail
     refine hKQ.out _ _ ?_
     clear hKQ KQ
     try refine kNK ?_
     refine kBK 12 ?_
     refine kBK 13 ?_
     try refine kNK ?_
     refine wpAnyK_done (by kernel_rfl) ?_ _
     refine NoPanic.normal ?_
    rotate_left 1
    all_goals (
     go_wp2_with fail
     go_ret
     exact ⟨rfl, HBZ.out⟩)
/-- What is not asked: only the chapter's example. -/
theorem law_apl_no (r c : Int) (s : ByteArray) (w : World) (hbl : Blanked w) (h : fewS r c = false ∨ (fewS r c = true ∧ 200 < s.size)) : Calls Tryz.prog 8 #[.agg #[.int .i64 r, .int .i64 c], .string s] w fun e w' => e = .returned (.bool true) ∧ Below w.heap.size w w' := by
 have HAW := Lib.hid (fun W (hb : Below w.heap.size w W) => awake_any W (hbl.below hb))
 have HFW := Lib.hid (fun W => few_any r c W)
 obtain ⟨x0, x1, g0, g1⟩ := row2 (heap_alloc_new w (.cells #[.int .i64 r, .int .i64 c] 23))
 have HB0 := Lib.hid (below1 w (.cells #[.int .i64 r, .int .i64 c] 23))
 clear hbl
 rcases h with h | ⟨h, h2⟩
 case' inr => have h2' : 200 < (s.size : Int) := by omega
 all_goals (
  rw [h] at HFW
  go_enter Tryz.func8, Tryz.ntmps8
  go_wp2_with (first
   | (go_at_call 10; refine (HFW.out _).mono ?_; rintro e w1 ⟨rfl, hb1⟩; have HB1 := Lib.hid (Below.later HB0.out hb1 HB0.out.size); clear hb1)
   | (go_at_call 11; refine (HAW.out _ HB1.out).mono ?_; rintro e w9 ⟨rfl, hb9⟩; have HB9 := Lib.hid (Below.later HB1.out hb9 HB1.out.size); clear hb9))
  go_ret
  exact ⟨rfl, HB9.out⟩)
theorem law_apl (r c : Int) (s : ByteArray) (w : World) (hbl : Blanked w) : Calls Tryz.prog 8 #[.agg #[.int .i64 r, .int .i64 c], .string s] w fun e w' => e = .returned (.bool true) ∧ Below w.heap.size w w' := by
 cases hf : fewS r c with
 | false => exact law_apl_no r c s w hbl (.inl hf)
 | true =>
   by_cases hm : 200 < s.size
   · exact law_apl_no r c s w hbl (.inr ⟨hf, hm⟩)
   · have hf' : 1 ≤ r ∧ r ≤ 6 ∧ 1 ≤ c ∧ c ≤ 12 := of_decide_eq_true hf
     obtain ⟨R, rfl⟩ := Int.eq_ofNat_of_zero_le (show 0 ≤ r by omega)
     obtain ⟨C, rfl⟩ := Int.eq_ofNat_of_zero_le (show 0 ≤ c by omega)
     have hs : s = (⟨s.data.toList.toArray⟩ : ByteArray) := by cases s; simp
     have hz : s.data.toList.length = s.size := rfl
     rw [hs]
     exact law_apl_main R C hf s.data.toList (by omega) w hbl
end Go.Proofs.YtncgigapgklhcaaGreatDoor
