import Derived.Test.YtncgigapgklhcaaGreatDoorRfS
import Derived.Test.YtncgigapgklhcaaGreatDoorAdmFew

/- The law AdmResets, whole: for all sizes and texts it answers true. -/
namespace Go.Proofs.YtncgigapgklhcaaGreatDoor
open Go.RowKit
set_option linter.unusedSimpArgs false
set_option linter.unusedVariables false
set_option maxRecDepth 100000
attribute [local go_sem] alloc_drewN setCell_drewN World.cell?_alloc_some frozen_alloc_some size_f0 size_f1

/-- The sequence, and the bytes that wait, are such as may be. -/
def okA (A : Ad) : Prop := okSeq A.seq ∧ A.q.length ≤ 20
theorem ground_q (A : Ad) (b : Nat) (h : A.q.length ≤ 20) : (groundA A b).1.q.length ≤ 20 := by
 unfold groundA
 repeat' refine ite_P (P := fun x : Ad × Bool => x.1.q.length ≤ 20) (fun _ => ?_) (fun _ => ?_)
 all_goals first | exact h | exact pushA_len _ _ h
theorem one_q (A : Ad) (b : Nat) (h : A.q.length ≤ 20) : (oneA A b).1.q.length ≤ 20 := by
 unfold oneA
 repeat' refine ite_P (P := fun x : Ad × Bool => x.1.q.length ≤ 20) (fun _ => ?_) (fun _ => ?_)
 all_goals first | exact h | exact pushA_len _ _ h
theorem rest_q (A : Ad) (b : Bool) : (restA A b).q = A.q := by
 unfold restA
 split <;> rfl
theorem okA_take (A : Ad) (b : UInt8) (h : okA A) : okA (takeA A b) := by
 unfold takeA okA
 rw [rest_seq, rest_q]
 by_cases c : b = 27
 · rw [show takeC A b = ({ A with seq := [27] }, false) from if_pos c]
   exact ⟨.inr (.inl rfl), h.2⟩
 rcases h.1 with e | e | e | e | ⟨x, e⟩
 · rw [takeC_ground c e]
   exact ⟨by rw [ground_seq, e]; exact .inl rfl, ground_q A _ h.2⟩
 · rw [takeC_one c e]
   by_cases d : b = 61 ∨ b = 71
   · rw [if_pos d]
     rcases d with rfl | rfl
     · exact ⟨.inr (.inr (.inl rfl)), h.2⟩
     · exact ⟨.inr (.inr (.inr (.inl rfl))), h.2⟩
   · rw [if_neg d]
     exact ⟨by rw [one_seq]; exact .inl rfl, one_q _ _ h.2⟩
 · rw [takeC_two c e]
   exact ⟨.inr (.inr (.inr (.inr ⟨b, rfl⟩))), h.2⟩
 · rw [takeC_dye c e]
   refine ⟨?_, ?_⟩
   · unfold dyesA; split <;> exact .inl rfl
   · unfold dyesA; split <;> exact h.2
 · rw [takeC_three c e]
   refine ⟨?_, ?_⟩
   · unfold addrA; split <;> exact .inl rfl
   · unfold addrA; split <;> exact h.2
theorem okA_feed (A : Ad) (l : List UInt8) (h : okA A) : okA (feedA A l) := by
 induction l generalizing A with
 | nil => exact h
 | cons b l ih => exact ih _ (okA_take A _ h)
section
variable {w W : World} {wp tp sp qp rp : Nat} {A : Ad} {r : Rf}
theorem pair_same (h : Pair w W wp tp sp qp A rp r) (hR : Rel A r) : Calls Tryz.prog 27 #[.pointer (some ⟨wp, 0, none⟩), .pointer (some ⟨rp, 0, none⟩)] W fun e w' => e = .returned (.bool true) ∧ Pair w w' wp tp sp qp A rp r := by
 have hq := h.okQ.2
 rw [hR.q] at hq
 have h' := h
 obtain ⟨FT, lb, cap, sb, h⟩ := h
 exact (same_ok h.box (same_of h.t hR) h.r hR.may hq).mono fun e w' g => ⟨g.1, h'.below g.2⟩
end
theorem feed_one (A : Ad) (l : List UInt8) {k : Nat} (hk : k < l.length) : feedA A (l.take (k + 1)) = takeA (feedA A (l.take k)) (l[k] % 128) := by
 rw [feedA_take A l hk, List.getElem?_eq_getElem hk]
 rfl
set_option maxHeartbeats 32000000 in
theorem law_are_main (R C : Nat) (hf : fewS R C = true) (l0 l1 : List UInt8) (h0 : l0.length ≤ 100) (h1 : l1.length ≤ 100) (reset : Bool) (w : World) (hbl : Blanked w) : Calls Tryz.prog 9 #[.agg #[.int .i64 R, .int .i64 C], .agg #[.string ⟨l0.toArray⟩, .string ⟨l1.toArray⟩], .bool reset] w fun e w' => e = .returned (.bool true) ∧ Below w.heap.size w w' := by
 have hf' : 1 ≤ (R : Int) ∧ (R : Int) ≤ 6 ∧ 1 ≤ (C : Int) ∧ (C : Int) ≤ 12 := of_decide_eq_true hf
 have hRC : (1 ≤ R ∧ R ≤ 6) ∧ (1 ≤ C ∧ C ≤ 12) := by omega
 have hm : Vz.mayS R C = true := (Vz.mayS_iff _ _).2 (by omega)
 have HAW := Lib.hid (fun W (hb : Below w.heap.size w W) => awake_any W (hbl.below hb))
 have HN := Lib.hid (fun W (hb : Below w.heap.size w W) => made_ok R C hm W (hbl.below hb))
 have HRN := Lib.hid (fun W => rf_new R C hRC.1 hRC.2 20 W)
 have HREL := Lib.hid (Rel.new hRC.1 hRC.2)
 have HFW := Lib.hid (fun W => hf ▸ few_any R C W)
 have HOK : Hid (okA (newA R C)) := ⟨.inl rfl, Nat.zero_le _⟩
 have hx := heap_alloc_new w (.cells #[.int .i64 R, .int .i64 C] 23)
 have hy := heap_alloc_new (w.alloc (.cells #[.int .i64 R, .int .i64 C] 23)) (.cells #[.string ⟨l0.toArray⟩, .string ⟨l1.toArray⟩] 69)
 have hx2 := (Below.heap_alloc (w.alloc (.cells #[.int .i64 R, .int .i64 C] 23)) (.cells #[.string ⟨l0.toArray⟩, .string ⟨l1.toArray⟩] 69) _ (block_lt hx)).trans hx
 have hb2 := (below1 w (.cells #[.int .i64 R, .int .i64 C] 23)).alloc (by simp) (.cells #[.string ⟨l0.toArray⟩, .string ⟨l1.toArray⟩] 69)
 rw [World.size_alloc] at hy
 have HX0 := Lib.hid hx2
 have HY0 := Lib.hid hy
 have HB0 := Lib.hid hb2
 obtain ⟨x0, x1, _⟩ := row2 hx2
 obtain ⟨y0, y1, _⟩ := row2 hy
 have HGL := Lib.hid hbl.lt
 have h0' : ¬ (100 < (l0.length : Int)) := by omega
 have h1' : ¬ (100 < (l1.length : Int)) := by omega
 have hz0 : (⟨l0.toArray⟩ : ByteArray).size = l0.length := by simp [ByteArray.size]
 have hz1 : (⟨l1.toArray⟩ : ByteArray).size = l1.length := by simp [ByteArray.size]
 clear hbl hx hy hx2 hb2 hf hm hRC
 go_enter Tryz.func9, Tryz.ntmps9
 go_wp2_with (first
  | (go_at_call 10; refine (HFW.out _).mono ?_; rintro e w1 ⟨rfl, hb1⟩; have HB1 := Lib.hid (Below.later HB0.out hb1 HB0.out.size); have HX1 := Lib.hid ((hb1.block _ (block_lt HX0.out)).trans HX0.out); have HY1 := Lib.hid ((hb1.block _ (block_lt HY0.out)).trans HY0.out); clear x0 x1 y0 y1; obtain ⟨x0, x1, _⟩ := row2 HX1.out; obtain ⟨y0, y1, _⟩ := row2 HY1.out; clear hb1)
  | (go_at_call 12; refine (HN.out _ HB1.out).mono ?_; rintro e w2 ⟨wp, tp, sp, qp, rfl, hmd⟩; clear x0 x1 y0 y1; obtain ⟨x0, x1, _⟩ := row2 ((hmd.2.2.2.block _ (block_lt HX1.out)).trans HX1.out); have HM2 := Lib.hid hmd; clear hmd)
  | (go_at_call 26; refine (HRN.out _).mono ?_; rintro e w3 ⟨rp, lb, cap, sb, rfl, hr, hl, hb⟩; have HP3 := Lib.hid (Pair.of_made HM2.out hr hl hb (by have := HB1.out.size; have := HGL.out; omega)); clear hr hl hb x0 x1))
 clear HM2
 generalize newA R C = A0 at *
 generalize newR R C 20 = r0 at *
 go_loopw [9] (fun i wr => ∃ (k : Nat) (A : Ad) (r : Rf), k ≤ 2 ∧ i = .int .i64 (k : Int) ∧ okA A ∧ Rel A r ∧ Pair w1 wr wp tp sp qp A rp r) (fun i _ => 2 - (intOf i).toNat)
 case atStart => exact ⟨0, A0, r0, Nat.zero_le _, rfl, HOK.out, HREL.out, HP3.out⟩
 case round =>
  clear HREL HP3 HOK
  obtain ⟨k, A, r, hk, rfl, hok, hA, hM⟩ := hrel
  have HA := Lib.hid hA
  have HM := Lib.hid hM
  have HOK := Lib.hid hok
  obtain ⟨c0, c1, c2⟩ := hM.cells
  clear hA hok
  by_cases hlt : k < 2
  · have hkz : (k : Int) < 2 := by omega
    have hwk : IntKind.i64.wrap ((k : Int) + 1) = ((k + 1 : Nat) : Int) := by rw [wrap_in (by omega) (by omega)]; rfl
    obtain ⟨l, hl, hlY⟩ : ∃ l : List UInt8, l.length ≤ 100 ∧ ∀ W, Below w1.heap.size w1 W → W.cell? ⟨w.heap.size + 1, k, none⟩ = some (.string ⟨l.toArray⟩) := by
     have : k = 0 ∨ k = 1 := by omega
     rcases this with rfl | rfl
     · exact ⟨l0, h0, fun W hb => (row2 ((hb.block _ (block_lt HY1.out)).trans HY1.out)).1⟩
     · exact ⟨l1, h1, fun W hb => (row2 ((hb.block _ (block_lt HY1.out)).trans HY1.out)).2.1⟩
    have HLY := Lib.hid hlY
    have hzl : (⟨l.toArray⟩ : ByteArray).size = l.length := by simp [ByteArray.size]
    have HBD : Hid (Below wr.heap.size wr wr.drew) := (Below.refl _ _).drew
    have HMB : Hid (∀ W, Below wr.heap.size wr W → Pair w1 W wp tp sp qp A rp r) := fun W hb => hM.below hb
    have HCW := Lib.hid (fun W (hb : Below wr.heap.size wr W) => (hM.below hb).cells)
    have HLW := Lib.hid (fun W (hb : Below wr.heap.size wr W) => hlY W (hM.below hb).belowW)
    clear hM hlY
    go_upto_region 10 with fail
    clear c0 c1 c2
    refine wp_region_noPanic ?_
    refine wp_region_k (S := fun W : World => Below wr.heap.size wr W) 7 (by kernel_rfl) (HBD.out) (fun hHeld => ?_)
    refine kSK 0 hHeld ?_
    refine kSK 1 hHeld ?_
    refine kSK 2 hHeld ?_
    refine kTK (v := ?_) 3 [] hHeld ?y4 ?_
    case y4 => (intro W hSw; obtain ⟨c0, c1, c2⟩ := HCW.out _ hSw; have u1 := HLW.out _ hSw; go_simp; try with_reducible rfl)
    refine kSK 4 hHeld ?_
    try refine kNK ?_
    refine kSK 5 hHeld ?_
    refine kTK (v := ?_) 6 [] hHeld ?y7 ?_
    case y7 => (intro W hSw; obtain ⟨c0, c1, c2⟩ := HCW.out _ hSw; have u1 := HLW.out _ hSw; go_simp; try with_reducible rfl)
    try refine kNK ?_
    refine kPK 7 fun KQ hKQ => ?_
    go_simp
    go_at_call 13
    refine (pair_feed (HMB.out _ hHeld) l (by omega)).mono ?_
    rintro e w7 ⟨rfl, hp⟩
    have HP7 := Lib.hid hp
    clear hp
    go_wp2_with fail
    refine hKQ.out _ _ ?_
    clear hKQ KQ
    try refine kNK ?_
    refine wpAnyK_done (by kernel_rfl) ?_ _
    refine NoPanic.normal ?_
    clear hHeld
    go_wp2_with fail
    go_loopw [10] (fun i wr => ∃ (q : Nat) (r2 : Rf), q ≤ l.length ∧ i = .int .i64 (q : Int) ∧ Rel (feedA A (l.take q)) r2 ∧ Pair w1 wr wp tp sp qp (feedA A l) rp r2) (fun i _ => l.length - (intOf i).toNat)
    case atStart => exact ⟨0, r, Nat.zero_le _, rfl, HA.out, HP7.out⟩
    case round =>
     obtain ⟨q, r2, hq, rfl, hA2, hM2⟩ := hrel
     have HA2 := Lib.hid hA2
     have HM2 := Lib.hid hM2
     have u1 := HLY.out _ hM2.belowW
     clear hA2 hM2
     by_cases hlq : q < l.length
     · have hqz : (q : Int) < (l.length : Int) := by omega
       have hwq : IntKind.i64.wrap ((q : Int) + 1) = ((q + 1 : Nat) : Int) := by rw [wrap_in (by omega) (by omega)]; rfl
       have HGX : Hid ((⟨l.toArray⟩ : ByteArray)[q]'(by show q < l.toArray.size; simpa using hlq) = l[q]) := by
        show l.toArray[q]'(by simpa using hlq) = _
        simp
       have HOB := Lib.hid (okA_feed A (l.take q) HOK.out)
       have HR3 : Hid (Rel (feedA A (l.take (q + 1))) (byteR r2 l[q])) := by
        show Rel _ _
        rw [feed_one A l hlq]
        exact (HA2.out.byte (HA2.out.seq ▸ HOB.out.1) l[q]).1
       have HBY := Lib.hid (pair_byte HM2.out HA2.out HOB.out l[q])
       generalize l[q] = b at *
       generalize byteR r2 b = r3 at *
       go_wp2_with (go_at_call 28; rw [HGX.out]; refine HBY.out.mono ?_; rintro e w8 ⟨rfl, hp⟩; have HP8 := Lib.hid hp; clear hp)
       exact ⟨⟨q + 1, r3, by omega, rfl, HR3.out, HP8.out⟩, by simp [intOf]; omega⟩
     · obtain rfl : q = l.length := by omega
       have HRA : Hid (Rel (feedA A l) r2) := by have := HA2.out; rw [List.take_length] at this; exact this
       have HOA := Lib.hid (okA_feed A l HOK.out)
       clear HA2 HP7
       generalize feedA A l = A2 at *
       have hcase : k = 0 ∨ k = 1 := by omega
       rcases hcase with rfl | rfl
       · cases reset with
         | true =>
           have HRR := Lib.hid HRA.out.reset
           have HOR : Hid (okA (resetA A2)) := ⟨.inl rfl, HOA.out.2⟩
           go_wp2_with (first
            | (go_at_call 27; refine (pair_same HP12.out HRR.out).mono ?_; rintro e w13 ⟨rfl, hp⟩; have HP13 := Lib.hid hp; clear hp)
            | (go_at_call 27; refine (pair_same HM2.out HRA.out).mono ?_; rintro e w10 ⟨rfl, hp⟩; have HP10 := Lib.hid hp; obtain ⟨d0, d1, d2⟩ := hp.cells; clear hp)
            | (go_at_call 17; refine (pair_reset HP10.out).mono ?_; rintro e w11 ⟨rfl, hp⟩; have HP11 := Lib.hid hp; clear hp)
            | (go_at_call 29; refine (pair_rreset HP11.out HRA.out.may).mono ?_; rintro e w12 ⟨rfl, hp⟩; have HP12 := Lib.hid hp; clear hp))
           exact ⟨⟨1, resetA A2, resetR r2, by omega, rfl, HOR.out, HRR.out, HP13.out⟩, by simp [intOf]⟩
         | false =>
           have HRR := Lib.hid (HRA.out.setSeq [])
           have HOR : Hid (okA { A2 with seq := [] }) := ⟨.inl rfl, HOA.out.2⟩
           go_wp2_with (first
            | (go_at_call 27; refine (pair_same HP11.out.rdrop HRR.out).mono ?_; rintro e w13 ⟨rfl, hp⟩; have HP13 := Lib.hid hp; clear hp)
            | (go_at_call 27; refine (pair_same HM2.out HRA.out).mono ?_; rintro e w10 ⟨rfl, hp⟩; have HP10 := Lib.hid hp; obtain ⟨d0, d1, d2⟩ := hp.cells; clear hp)
            | (go_at_call 18; refine (pair_drop HP10.out).mono ?_; rintro e w11 ⟨rfl, hp⟩; have HP11 := Lib.hid hp; obtain ⟨z9, z10, zf⟩ := hp.rcells; clear hp))
           exact ⟨⟨1, { A2 with seq := [] }, { r2 with seq := [] }, by omega, rfl, HOR.out, HRR.out, HP13.out⟩, by simp [intOf]⟩
       · go_wp2_with (first
          | (go_at_call 27; refine (pair_same HM2.out HRA.out).mono ?_; rintro e w10 ⟨rfl, hp⟩; have HP10 := Lib.hid hp; clear hp))
         exact ⟨⟨2, A2, r2, by omega, rfl, HOA.out, HRA.out, HP10.out⟩, by simp [intOf]⟩
  · obtain rfl : k = 2 := by omega
    have HBW := Lib.hid (Below.later HB1.out hM.belowW HB1.out.size)
    clear hM c0 c1 c2
    go_wp2_with (go_at_call 11; refine (HAW.out _ HBW.out).mono ?_; rintro e wz ⟨rfl, hbz⟩; have HBZ := Lib.hid (Below.later HBW.out hbz HBW.out.size); clear hbz)
    go_ret
    exact ⟨rfl, HBZ.out⟩
/-- What is not asked: only the chapter's example. -/
theorem law_are_no (r c : Int) (s0 s1 : ByteArray) (reset : Bool) (w : World) (hbl : Blanked w) (h : fewS r c = false ∨ (fewS r c = true ∧ 100 < s0.size) ∨ (fewS r c = true ∧ s0.size ≤ 100 ∧ 100 < s1.size)) : Calls Tryz.prog 9 #[.agg #[.int .i64 r, .int .i64 c], .agg #[.string s0, .string s1], .bool reset] w fun e w' => e = .returned (.bool true) ∧ Below w.heap.size w w' := by
 have HAW := Lib.hid (fun W (hb : Below w.heap.size w W) => awake_any W (hbl.below hb))
 have HFW := Lib.hid (fun W => few_any r c W)
 have hx := heap_alloc_new w (.cells #[.int .i64 r, .int .i64 c] 23)
 have hy := heap_alloc_new (w.alloc (.cells #[.int .i64 r, .int .i64 c] 23)) (.cells #[.string s0, .string s1] 69)
 have hx2 := (Below.heap_alloc (w.alloc (.cells #[.int .i64 r, .int .i64 c] 23)) (.cells #[.string s0, .string s1] 69) _ (block_lt hx)).trans hx
 have hb2 := (below1 w (.cells #[.int .i64 r, .int .i64 c] 23)).alloc (by simp) (.cells #[.string s0, .string s1] 69)
 rw [World.size_alloc] at hy
 have HB0 := Lib.hid hb2
 have HY0 := Lib.hid hy
 obtain ⟨x0, x1, _⟩ := row2 hx2
 obtain ⟨y0, y1, _⟩ := row2 hy
 clear hbl hx hy hx2 hb2
 rcases h with h | ⟨h, h2⟩ | ⟨h, h2, h3⟩
 case' inr.inl => have h2' : 100 < (s0.size : Int) := by omega
 case' inr.inr =>
  have h2' : ¬ 100 < (s0.size : Int) := by omega
  have h3' : 100 < (s1.size : Int) := by omega
 all_goals (
  rw [h] at HFW
  go_enter Tryz.func9, Tryz.ntmps9
  go_wp2_with (first
   | (go_at_call 10; refine (HFW.out _).mono ?_; rintro e w1 ⟨rfl, hb1⟩; have HB1 := Lib.hid (Below.later HB0.out hb1 HB0.out.size); clear x0 x1 y0 y1; obtain ⟨y0, y1, _⟩ := row2 ((hb1.block _ (block_lt HY0.out)).trans HY0.out); clear hb1)
   | (go_at_call 11; refine (HAW.out _ HB1.out).mono ?_; rintro e w9 ⟨rfl, hb9⟩; have HB9 := Lib.hid (Below.later HB1.out hb9 HB1.out.size); clear hb9))
  go_ret
  exact ⟨rfl, HB9.out⟩)
theorem law_are (r c : Int) (s0 s1 : ByteArray) (reset : Bool) (w : World) (hbl : Blanked w) : Calls Tryz.prog 9 #[.agg #[.int .i64 r, .int .i64 c], .agg #[.string s0, .string s1], .bool reset] w fun e w' => e = .returned (.bool true) ∧ Below w.heap.size w w' := by
 cases hf : fewS r c with
 | false => exact law_are_no r c s0 s1 reset w hbl (.inl hf)
 | true =>
   by_cases hm : 100 < s0.size
   · exact law_are_no r c s0 s1 reset w hbl (.inr (.inl ⟨hf, hm⟩))
   by_cases hm1 : 100 < s1.size
   · exact law_are_no r c s0 s1 reset w hbl (.inr (.inr ⟨hf, by omega, hm1⟩))
   · have hf' : 1 ≤ r ∧ r ≤ 6 ∧ 1 ≤ c ∧ c ≤ 12 := of_decide_eq_true hf
     obtain ⟨R, rfl⟩ := Int.eq_ofNat_of_zero_le (show 0 ≤ r by omega)
     obtain ⟨C, rfl⟩ := Int.eq_ofNat_of_zero_le (show 0 ≤ c by omega)
     have hs0 : s0 = (⟨s0.data.toList.toArray⟩ : ByteArray) := by cases s0; simp
     have hz0 : s0.data.toList.length = s0.size := rfl
     have hs1 : s1 = (⟨s1.data.toList.toArray⟩ : ByteArray) := by cases s1; simp
     have hz1 : s1.data.toList.length = s1.size := rfl
     rw [hs0, hs1]
     exact law_are_main R C hf s0.data.toList s1.data.toList (by omega) (by omega) reset w hbl
end Go.Proofs.YtncgigapgklhcaaGreatDoor
