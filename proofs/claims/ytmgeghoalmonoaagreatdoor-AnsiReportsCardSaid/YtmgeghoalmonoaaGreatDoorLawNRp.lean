import Derived.Test.YtmgeghoalmonoaaGreatDoorSG
import Derived.Test.YtmgeghoalmonoaaGreatDoorRF

/- The law AnsiReports, whole: for all sizes, texts and places it answers true. -/
namespace Go.Proofs.YtmgeghoalmonoaaGreatDoor
open Go.RowKit
set_option linter.unusedSimpArgs false
set_option linter.unusedVariables false
set_option maxRecDepth 100000
attribute [local go_sem] alloc_drewN setCell_drewN World.cell?_alloc_some frozen_alloc_some size_f0 size_f1 pos_f1


theorem run_eqlp_self (a b : Int) (w : World) : Sem.run Tryz.prog (binOp .eql 39 (.agg #[.int .i64 a, .int .i64 b]) (.agg #[.int .i64 a, .int .i64 b])) w = .ok (.bool true) w := by
 have h := run_eql_ps ⟨a, b⟩ ⟨a, b⟩ w
 rw [eqP_iff.2 rfl] at h
 exact h
theorem run_eqstr_self (x : ByteArray) (w : World) : Sem.run Tryz.prog (binOp .eql 9 (.string x) (.string x)) w = .ok (.bool true) w := by simp [go_sem]
attribute [local go_sem 3000] run_eqlp_self run_eqstr_self
/-- The boxes of the size and of the place asked for. -/
def AskB (w : World) (r c a b : Int) (W : World) : Prop := Below w.heap.size w W ∧ W.heap[w.heap.size]? = some (.cells #[.int .i64 r, .int .i64 c] 23 (0, 0)) ∧ W.heap[w.heap.size + 1]? = some (.cells #[.int .i64 a, .int .i64 b] 24 (0, 0))
theorem AskB.later {w W W' : World} {r c a b : Int} (h : AskB w r c a b W) (hb : Below W.heap.size W W') : AskB w r c a b W' :=
 ⟨h.1.trans (hb.mono h.1.size), (hb.block _ (block_lt h.2.1)).trans h.2.1, (hb.block _ (block_lt h.2.2)).trans h.2.2⟩
theorem AskB.new (w : World) (r c a b : Int) : AskB w r c a b ((w.alloc (.cells #[.int .i64 r, .int .i64 c] 23)).alloc (.cells #[.int .i64 a, .int .i64 b] 24)) := by
 have h2 := heap_alloc_new (w.alloc (.cells #[.int .i64 r, .int .i64 c] 23)) (.cells #[.int .i64 a, .int .i64 b] 24)
 rw [World.size_alloc] at h2
 exact ⟨(below1 w _).alloc (by simp) _, (Below.heap_alloc _ _ _ (by rw [World.size_alloc]; omega)).trans (heap_alloc_new _ _), h2⟩
theorem told_text (a b : Nat) : (⟨(toldL a b).toArray⟩ : ByteArray) = ⟨#[27, 91]⟩ ++ dgB a ++ ⟨#[59]⟩ ++ dgB b ++ ⟨#[82]⟩ := by
 apply ByteArray.ext
 unfold toldL dgB
 simp [ByteArray.data_append]
theorem ask_text (a b : Nat) : (⟨#[27, 91]⟩ ++ dgB a ++ ⟨#[59]⟩ ++ dgB b ++ ⟨#[72, 27, 91, 54, 110]⟩ : ByteArray).data.toList = askL a b := by
 unfold askL dgB
 simp [ByteArray.data_append]
theorem askL_len (a b : Nat) (ha : a ≤ 9999) (hb : b ≤ 9999) : (askL a b).length ≤ 20 := by
 have l1 := Vz.digN_len a ha
 have l2 := Vz.digN_len b hb
 unfold askL
 simp only [List.length_append, List.length_cons, List.length_nil]
 omega
set_option maxHeartbeats 16000000 in
theorem law_anr_main (R C a b : Nat) (hf : smallS R C = true) (ha : 1 ≤ a ∧ a ≤ 9999) (hb : 1 ≤ b ∧ b ≤ 9999) (s : ByteArray) (hs : s.size ≤ 300) (w : World) (hbl : Blanked w) : Calls Tryz.prog 3 #[.agg #[.int .i64 R, .int .i64 C], .string s, .agg #[.int .i64 a, .int .i64 b]] w fun e w' => e = .returned (.bool true) ∧ Below w.heap.size w w' := by
 have hf' : 1 ≤ (R : Int) ∧ (R : Int) ≤ 30 ∧ 1 ≤ (C : Int) ∧ (C : Int) ≤ 40 := of_decide_eq_true hf
 have hm : Vz.mayS R C = true := (Vz.mayS_iff _ _).2 (by omega)
 obtain ⟨rn, hrn⟩ : ∃ n, n = min a R := ⟨_, rfl⟩
 obtain ⟨cn, hcn⟩ : ∃ n, n = min b C := ⟨_, rfl⟩
 have HAW := Lib.hid (fun W (hb : Below w.heap.size w W) => awake_any W (hbl.below hb))
 have HN := Lib.hid (fun W (hb : Below w.heap.size w W) => made_ok R C 4096 hm (by decide) (by decide) W (hbl.below hb))
 have HFW := Lib.hid (fun W => hf ▸ small_any R C W)
 have HTB := Lib.hid (AskB.new w R C a b)
 obtain ⟨x0, x1, _⟩ := row2 HTB.out.2.1
 obtain ⟨z0, z1, _⟩ := row2 HTB.out.2.2
 have h1' : ¬ (300 < (s.size : Int)) := by omega
 have a1 : ¬ ((a : Int) < 1) := by omega
 have a2 : ¬ (9999 < (a : Int)) := by omega
 have b1 : ¬ ((b : Int) < 1) := by omega
 have b2 : ¬ (9999 < (b : Int)) := by omega
 have HNA := Lib.hid (fun W => numb_ok 3 a (by omega) (by omega) W)
 have HNB := Lib.hid (fun W => numb_ok 3 b (by omega) (by omega) W)
 have HNR := Lib.hid (fun W => numb_ok 3 rn (by omega) (by omega) W)
 have HNC := Lib.hid (fun W => numb_ok 3 cn (by omega) (by omega) W)
 have za := dgB_size a (by omega)
 have zb := dgB_size b (by omega)
 have zr := dgB_size rn (by omega)
 have zc := dgB_size cn (by omega)
 have sa1 : ¬ 9223372036854775807 < 2 + (dgB a).size := by omega
 have sa2 : ¬ 9223372036854775807 < 2 + (dgB a).size + 1 := by omega
 have sa3 : ¬ 9223372036854775807 < 2 + (dgB a).size + 1 + (dgB b).size := by omega
 have sa4 : ¬ 9223372036854775807 < 2 + (dgB a).size + 1 + (dgB b).size + 5 := by omega
 have sr1 : ¬ 9223372036854775807 < 2 + (dgB rn).size := by omega
 have sr2 : ¬ 9223372036854775807 < 2 + (dgB rn).size + 1 := by omega
 have sr3 : ¬ 9223372036854775807 < 2 + (dgB rn).size + 1 + (dgB cn).size := by omega
 have sr4 : ¬ 9223372036854775807 < 2 + (dgB rn).size + 1 + (dgB cn).size + 1 := by omega
 have m1 : min (a : Int) (R : Int) = (rn : Int) := by omega
 have m2 : min (b : Int) (C : Int) = (cn : Int) := by omega
 have n1 : IntKind.i64.wrap ((rn : Int) - 1) = (rn : Int) - 1 := wrap_in (by omega) (by omega)
 have n2 : IntKind.i64.wrap ((cn : Int) - 1) = (cn : Int) - 1 := wrap_in (by omega) (by omega)
 have HRP := Lib.hid (told_text rn cn)
 have HTX := Lib.hid (ask_text a b)
 have HLN := Lib.hid (askL_len a b (by omega) (by omega))
 -- what the model does
 have hd1 := feedN_dims s.data.toList (newN R C 4096)
 have hO1 := OkA.feed s.data.toList (newN R C 4096) (OkA.new (M := 4096) R C)
 have hl1 : (feedN (newN R C 4096) s.data.toList).lost ≤ 300 := by have := hd1.2; have e : s.data.toList.length = s.size := rfl; have e2 : (newN R C 4096).lost = 0 := rfl; omega
 have HSM : Hid (SmallA (newN R C 4096)) := ⟨by show R ≤ 98; omega, by show C ≤ 98; omega⟩
 have HL0 : Hid ((newN R C 4096).lost + s.size ≤ 90000) := by show 0 + s.size ≤ 90000; omega
 have HD1 : Hid ((feedN (newN R C 4096) s.data.toList).S.D.R = R ∧ (feedN (newN R C 4096) s.data.toList).S.D.C = C) := hd1.1
 have HM1 : Hid ((feedN (newN R C 4096) s.data.toList).most = 4096) := hO1.1
 have HL1 := Lib.hid hl1
 have HMY := Lib.hid hm
 have HRN : Hid (rn = min a R ∧ cn = min b C) := ⟨hrn, hcn⟩
 clear hd1 hO1 hl1 hbl hf hm hrn hcn
 generalize hA0 : newN R C 4096 = A0 at *
 clear hA0
 generalize hA1 : feedN A0 s.data.toList = A1 at *
 have HA1 := Lib.hid hA1
 clear hA1
 go_enter Tryz.func3, Tryz.ntmps3
 go_upto_region 8 with (first
  | (go_at_call 7; refine (HFW.out _).mono ?_; rintro e w1 ⟨rfl, hb1⟩; have HTB1 := Lib.hid (HTB.out.later hb1); clear x0 x1 z0 z1; obtain ⟨x0, x1, _⟩ := row2 HTB1.out.2.1; obtain ⟨z0, z1, _⟩ := row2 HTB1.out.2.2; clear hb1)
  | (go_at_call 9; refine (HN.out _ HTB1.out.1).mono ?_; rintro e w2 ⟨wp, P, G, rfl, hmd⟩; clear x0 x1 z0 z1; obtain ⟨c0, c1, c2⟩ := hmd.cells; have HM2 := Lib.hid hmd; clear hmd)
  | (go_at_call 10; refine (made_feed HM2.out HSM.out s HL0.out).mono ?_; rintro e w3 ⟨rfl, G3, hmd⟩; rw [HA1.out] at hmd; clear c0 c1 c2; obtain ⟨c0, c1, c2⟩ := hmd.cells; have HM3 := Lib.hid hmd; clear hmd)
  | (go_at_call 11; refine (made_drain HM3.out).mono ?_; rintro e w4 ⟨rfl, G4, hmd⟩; clear c0 c1 c2; have HM4 := Lib.hid hmd; clear hmd))
 have hask := ask_feed { A1 with q := [], over := false } a b ha hb (by show Vz.mayS A1.S.D.R A1.S.D.C = true; rw [HD1.out.1, HD1.out.2]; exact HMY.out) rfl HM1.out
 have HFD : Hid (∀ W, Below w4.heap.size w4 W → ∀ t : ByteArray, t.data.toList = askL a b → Calls Tryz.prog 10 #[.pointer (some ⟨P.tp, 0, none⟩), .string t] W fun e w' => e = .returned (.tuple #[]) ∧ ∃ G' A', MadeA w1 w' wp P G' A' ∧ A'.S.pl = ⟨⟨(rn : Int) - 1, (cn : Int) - 1⟩, false⟩ ∧ A'.q = toldL rn cn) := by
  intro W hW t ht
  have hz : t.size = (askL a b).length := by rw [← ht]; rfl
  have hL := HL1.out
  have hN := HLN.out
  refine (made_feed (HM4.out.below hW) ⟨?_, ?_⟩ t ?_).mono ?_
  · show A1.S.D.R ≤ 98; rw [HD1.out.1]; omega
  · show A1.S.D.C ≤ 98; rw [HD1.out.2]; omega
  · show A1.lost + t.size ≤ 90000; omega
  · rintro e w' ⟨rfl, G', hmd⟩
    rw [ht] at hmd
    obtain ⟨k1, k2, k3⟩ := hask
    refine ⟨rfl, G', _, hmd, k1.trans ?_, k2.trans ?_⟩
    · show Vz.Pl.mk ⟨min (a : Int) A1.S.D.R - 1, min (b : Int) A1.S.D.C - 1⟩ false = _
      rw [HD1.out.1, HD1.out.2, show min (a : Int) (R : Int) = (rn : Int) by have := HRN.out; omega, show min (b : Int) (C : Int) = (cn : Int) by have := HRN.out; omega]
    · show toldL (min a A1.S.D.R) (min b A1.S.D.C) = _
      rw [HD1.out.1, HD1.out.2, HRN.out.1, HRN.out.2]
 clear hask
 have HB4 : Hid (Below w4.heap.size w4 w4.drew) := (Below.refl _ _).drew
 have HY4 : Hid (∀ W, Below w4.heap.size w4 W → MadeA w1 W wp P G4 { A1 with q := [], over := false } ∧ AskB w R C a b W) := fun W hW => ⟨HM4.out.below hW, HTB1.out.later (HM4.out.below hW).bel⟩
 refine wp_region_noPanic ?_
 refine wp_region_k (S := fun W : World => Below w4.heap.size w4 W) 14 (by kernel_rfl) (HB4.out) (fun hHeld => ?_)
 refine kSK 0 hHeld ?_
 refine kSK 1 hHeld ?_
 refine kSK 2 hHeld ?_
 refine kTK (v := ?_) 3 [] hHeld ?y4 ?_
 case y4 => (intro W hSw; obtain ⟨y0, y1, y2⟩ := (HY4.out _ hSw).1.cells; obtain ⟨z0, z1, _⟩ := row2 (HY4.out _ hSw).2.2.2; go_simp; try with_reducible rfl)
 refine kSK 4 hHeld ?_
 try refine kNK ?_
 refine kTK (v := ?_) 5 [11, 6] hHeld ?y6 ?_
 case y6 => (intro W hSw; obtain ⟨y0, y1, y2⟩ := (HY4.out _ hSw).1.cells; obtain ⟨z0, z1, _⟩ := row2 (HY4.out _ hSw).2.2.2; go_simp; try with_reducible rfl)
 refine kSK 9 hHeld ?_
 refine kTK (v := ?_) 10 [11] hHeld ?y8 ?_
 case y8 => (intro W hSw; obtain ⟨y0, y1, y2⟩ := (HY4.out _ hSw).1.cells; obtain ⟨z0, z1, _⟩ := row2 (HY4.out _ hSw).2.2.2; go_simp; try with_reducible rfl)
 try refine kNK ?_
 refine kOK 6 fun KQ hKQ => ?_
 go_simp
 go_at_call 12
 refine (HNA.out _).mono ?_
 rintro e w5 ⟨rfl, hb5⟩
 have hs5 := Below.later hHeld hb5 hHeld.size
 clear hb5
 go_wp2_with fail
 refine hKQ.out _ _ (hs5) ?_
 clear hHeld hKQ KQ
 intro hHeld
 try refine kNK ?_
 clear hs5
 refine kSK 7 hHeld ?_
 refine kSK 8 hHeld ?_
 try refine kNK ?_
 refine kOK 11 fun KQ hKQ => ?_
 go_simp
 go_at_call 12
 refine (HNB.out _).mono ?_
 rintro e w6 ⟨rfl, hb6⟩
 have hs6 := Below.later hHeld hb6 hHeld.size
 clear hb6
 go_wp2_with fail
 refine hKQ.out _ _ (hs6) ?_
 clear hHeld hKQ KQ
 intro hHeld
 try refine kNK ?_
 clear hs6
 refine kSK 12 hHeld ?_
 refine kSK 13 hHeld ?_
 try refine kNK ?_
 all_goals (
  refine kPK 14 fun KQ hKQ => ?_
  go_simp
  go_at_call 10
  refine (HFD.out _ hHeld _ HTX.out).mono ?_
  rintro e w7 ⟨rfl, G7, A7, hmd, hpl, hq⟩
  have HM7 := Lib.hid hmd
  have HPL := Lib.hid hpl
  have HQ7 := Lib.hid hq
  clear hmd hpl hq
  go_wp2_with fail
  refine hKQ.out _ _ ?_
  clear hKQ KQ
  try refine kNK ?_
  refine wpAnyK_done (by kernel_rfl) ?_ _
  refine NoPanic.normal ?_)
 all_goals (
  clear hHeld
  obtain ⟨y0, y1, y2⟩ := HM7.out.cells
  have HTB7 := Lib.hid (HTB1.out.later HM7.out.bel)
  obtain ⟨x0, x1, _⟩ := row2 HTB7.out.2.1
  obtain ⟨z0, z1, _⟩ := row2 HTB7.out.2.2
  have hcu := made_cursor HM7.out
  rw [HPL.out] at hcu
  have HCU : Hid (Calls Tryz.prog 13 #[.pointer (some ⟨P.sp, 0, none⟩)] w7 fun e w' => e = .returned (.tuple #[.agg #[.int .i64 ((rn : Int) - 1), .int .i64 ((cn : Int) - 1)], .bool false]) ∧ Below w7.heap.size w7 w') := hcu
  clear hcu
  go_upto_region 12 with (go_at_call 13; refine HCU.out.mono ?_; rintro e w8 ⟨rfl, hb8⟩; have HB8 := Lib.hid (hb8.alloc hb8.size (.cells #[.int .i64 ((rn : Int) - 1), .int .i64 ((cn : Int) - 1)] 39)); have HP8 := Lib.hid (heap_alloc_new w8 (.cells #[.int .i64 ((rn : Int) - 1), .int .i64 ((cn : Int) - 1)] 39)); clear hb8)
  clear x0 x1 y0 y1 y2 z0 z1
  have HM8 := Lib.hid (HM7.out.below HB8.out)
  obtain ⟨p0, p1, _⟩ := row2 HP8.out
  obtain ⟨y0, y1, y2⟩ := HM8.out.cells
  have hdr := made_drain HM8.out
  rw [HQ7.out, HRP.out] at hdr
  have HDR := Lib.hid hdr
  clear hdr
  go_wp2_with (first
   | (go_at_call 11; refine HDR.out.mono ?_; rintro e w9 ⟨rfl, G9, hmd⟩; have HB9 := Lib.hid (Below.later HTB1.out.1 hmd.bel HTB1.out.1.size); clear hmd)
   | (go_at_call 12; refine (HNR.out _).mono ?_; rintro e w10 ⟨rfl, hb10⟩; have HB10 := Lib.hid (Below.later HB9.out hb10 HB9.out.size); clear hb10 HNR)
   | (go_at_call 12; refine (HNC.out _).mono ?_; rintro e w11 ⟨rfl, hb11⟩; have HB11 := Lib.hid (Below.later HB10.out hb11 HB10.out.size); clear hb11)
   | (go_at_call 8; refine (HAW.out _ HB11.out).mono ?_; rintro e w12 ⟨rfl, hb12⟩; have HB12 := Lib.hid (Below.later HB11.out hb12 HB11.out.size); clear hb12))
  go_ret
  exact ⟨rfl, HB12.out⟩)
set_option maxHeartbeats 4000000 in
/-- What is not asked: only the chapter's example. -/
theorem law_anr_no (r c a b : Int) (s : ByteArray) (w : World) (hbl : Blanked w) (h : smallS r c = false ∨ (smallS r c = true ∧ 300 < (s.size : Int)) ∨ (smallS r c = true ∧ ¬ (300 < (s.size : Int)) ∧ a < 1) ∨ (smallS r c = true ∧ ¬ (300 < (s.size : Int)) ∧ ¬ a < 1 ∧ 9999 < a) ∨ (smallS r c = true ∧ ¬ (300 < (s.size : Int)) ∧ ¬ a < 1 ∧ ¬ 9999 < a ∧ b < 1) ∨ (smallS r c = true ∧ ¬ (300 < (s.size : Int)) ∧ ¬ a < 1 ∧ ¬ 9999 < a ∧ ¬ b < 1 ∧ 9999 < b)) :
 Calls Tryz.prog 3 #[.agg #[.int .i64 r, .int .i64 c], .string s, .agg #[.int .i64 a, .int .i64 b]] w fun e w' => e = .returned (.bool true) ∧ Below w.heap.size w w' := by
 have HAW := Lib.hid (fun W (hb : Below w.heap.size w W) => awake_any W (hbl.below hb))
 have HFW := Lib.hid (fun W => small_any r c W)
 have HTB := Lib.hid (AskB.new w r c a b)
 obtain ⟨x0, x1, _⟩ := row2 HTB.out.2.1
 obtain ⟨z0, z1, _⟩ := row2 HTB.out.2.2
 clear hbl
 rcases h with h | ⟨h, h1⟩ | ⟨h, h1, h2⟩ | ⟨h, h1, h2, h3⟩ | ⟨h, h1, h2, h3, h4⟩ | ⟨h, h1, h2, h3, h4, h5⟩
 all_goals (
  rw [h] at HFW
  go_enter Tryz.func3, Tryz.ntmps3
  go_wp2_with (first
   | (go_at_call 7; refine (HFW.out _).mono ?_; rintro e w1 ⟨rfl, hb1⟩; have HTB1 := Lib.hid (HTB.out.later hb1); clear x0 x1 z0 z1; obtain ⟨z0, z1, _⟩ := row2 HTB1.out.2.2; clear hb1)
   | (go_at_call 8; refine (HAW.out _ HTB1.out.1).mono ?_; rintro e w9 ⟨rfl, hb9⟩; have HB9 := Lib.hid (HTB1.out.later hb9).1; clear hb9))
  go_ret
  exact ⟨rfl, HB9.out⟩)
theorem law_anr (r c a b : Int) (s : ByteArray) (w : World) (hbl : Blanked w) : Calls Tryz.prog 3 #[.agg #[.int .i64 r, .int .i64 c], .string s, .agg #[.int .i64 a, .int .i64 b]] w fun e w' => e = .returned (.bool true) ∧ Below w.heap.size w w' := by
 cases hf : smallS r c with
 | false => exact law_anr_no r c a b s w hbl (.inl hf)
 | true =>
   by_cases h1 : 300 < (s.size : Int)
   · exact law_anr_no r c a b s w hbl (.inr (.inl ⟨hf, h1⟩))
   by_cases h2 : a < 1
   · exact law_anr_no r c a b s w hbl (.inr (.inr (.inl ⟨hf, h1, h2⟩)))
   by_cases h3 : 9999 < a
   · exact law_anr_no r c a b s w hbl (.inr (.inr (.inr (.inl ⟨hf, h1, h2, h3⟩))))
   by_cases h4 : b < 1
   · exact law_anr_no r c a b s w hbl (.inr (.inr (.inr (.inr (.inl ⟨hf, h1, h2, h3, h4⟩)))))
   by_cases h5 : 9999 < b
   · exact law_anr_no r c a b s w hbl (.inr (.inr (.inr (.inr (.inr ⟨hf, h1, h2, h3, h4, h5⟩)))))
   have hf' : 1 ≤ r ∧ r ≤ 30 ∧ 1 ≤ c ∧ c ≤ 40 := of_decide_eq_true hf
   obtain ⟨R, rfl⟩ := Int.eq_ofNat_of_zero_le (show 0 ≤ r by omega)
   obtain ⟨C, rfl⟩ := Int.eq_ofNat_of_zero_le (show 0 ≤ c by omega)
   obtain ⟨a, rfl⟩ := Int.eq_ofNat_of_zero_le (show 0 ≤ a by omega)
   obtain ⟨b, rfl⟩ := Int.eq_ofNat_of_zero_le (show 0 ≤ b by omega)
   exact law_anr_main R C a b hf (by omega) (by omega) s (by omega) w hbl
end Go.Proofs.YtmgeghoalmonoaaGreatDoor
