import Derived.Test.YtmgeghoalmonoaaGreatDoorSG
import Derived.Test.YtmgeghoalmonoaaGreatDoorRF
import Derived.Test.YtmgeghoalmonoaaGreatDoorMovs
import Derived.Test.YtmgeghoalmonoaaGreatDoorLawNBd

/- The law AnsiSaves, whole: for all sizes, texts and moves it answers true. -/
namespace Go.Proofs.YtmgeghoalmonoaaGreatDoor
open Go.RowKit
set_option linter.unusedSimpArgs false
set_option linter.unusedVariables false
set_option maxRecDepth 100000
attribute [local go_sem] alloc_drewN setCell_drewN World.cell?_alloc_some frozen_alloc_some size_f0 size_f1 pos_f1

/-- A terminal whose memory leaves the blocks from lo to hi as they were at W0. -/
def Held (w1 W0 W : World) (b : Nat) (P : Pt) (lo hi : Nat) (G : Nat → Prop) (A : An) : Prop := MadeA w1 W b P G A ∧ (∀ k, lo ≤ k → k < hi → ¬ G k) ∧ (∀ k, lo ≤ k → k < hi → W.heap[k]? = W0.heap[k]?) ∧ hi ≤ W.heap.size
section
variable {w1 W0 W W' : World} {b : Nat} {P : Pt} {lo hi : Nat} {G : Nat → Prop} {A A' : An}
theorem Held.below (h : Held w1 W0 W b P lo hi G A) (hb : Below W.heap.size W W') : Held w1 W0 W' b P lo hi G A := by
 obtain ⟨h1, h2, h3, h4⟩ := h
 exact ⟨h1.below hb, h2, fun k hl hk => (hb.block k (by omega)).trans (h3 k hl hk), Nat.le_trans h4 hb.size⟩
theorem Held.to (h : Held w1 W0 W b P lo hi G A) (ht : AnTo W W' P G A') : ∃ G', Held w1 W0 W' b P lo hi G' A' := by
 obtain ⟨h1, h2, h3, h4⟩ := h
 obtain ⟨⟨G', g1, g2⟩, hk⟩ := ht
 have hlt := block_lt h1.box
 have hsz := h1.bel.size
 refine ⟨G', ⟨g1, (hk.block _ hlt h1.nb).trans h1.box, fun e => ?_, h1.ge, fun k hk' => ?_, h1.bel.trans (hk.below (fun k hk => h1.geG k hk) hsz)⟩, fun k hl hh e => ?_, fun k hl hh => (hk.block k (by omega) (h2 k hl hh)).trans (h3 k hl hh), Nat.le_trans h4 hk.size⟩
 · rcases g2 _ e with e | e
   · exact h1.nb e
   · omega
 · rcases g2 _ hk' with e | e
   · exact h1.geG k e
   · omega
 · rcases g2 _ e with e | e
   · exact h2 k hl hh e
   · omega
theorem Held.feed (h : Held w1 W0 W b P lo hi G A) (hsm : SmallA A) (s : ByteArray) (hl : A.lost + s.size ≤ 90000) : Calls Tryz.prog 10 #[.pointer (some ⟨P.tp, 0, none⟩), .string s] W fun e w' => e = .returned (.tuple #[]) ∧ ∃ G', Held w1 W0 w' b P lo hi G' (feedN A s.data.toList) :=
 (an_feed h.1.an hsm s hl).mono fun e w' h' => ⟨h'.1, h.to h'.2⟩
theorem Held.start (h : MadeA w1 W b P G A) (hb : Below W.heap.size W W0) : Held w1 W0 W0 b P W.heap.size W0.heap.size G A :=
 ⟨h.below hb, fun k hl _ e => by have := h.an.lt k e; omega, fun k _ _ => rfl, Nat.le_refl _⟩
theorem Held.rows (h : Held w1 W0 W b P lo hi G A) {B OB : Nat} {D : Vz.Gd} {GR KR : Nat → Nat} (hr : RowsAt B W0 OB D GR KR) (hB : lo ≤ B) (hh : hi = W0.heap.size) : RowsAt B W OB D GR KR :=
 hr.of_blocks fun k hk hl => h.2.2.1 k (by omega) (by omega)
end
theorem run_neq_self (g a m : Int) (d : Bool) (w : World) : Sem.run Tryz.prog (binOp .neq 48 (.agg #[.int .i32 g, .int .i64 a, .bool d, .int .i64 m]) (.agg #[.int .i32 g, .int .i64 a, .bool d, .int .i64 m])) w = .ok (.bool false) w := by
 have h := run_neq_cell ⟨g, a, d, m⟩ ⟨g, a, d, m⟩ w
 rw [eqC_iff.2 rfl] at h
 exact h
theorem run_eqls_self (a b : Int) (w : World) : Sem.run Tryz.prog (binOp .eql 39 (.agg #[.int .i64 a, .int .i64 b]) (.agg #[.int .i64 a, .int .i64 b])) w = .ok (.bool true) w := by
 have h := run_eql_ps ⟨a, b⟩ ⟨a, b⟩ w
 rw [eqP_iff.2 rfl] at h
 exact h
theorem modes_f2 (a b c d : Value) (W : World) : Sem.run Tryz.prog (Instr.field 50 (.agg #[a, b, c, d]) 2) W = .ok (.agg #[c, d]) W := by kernel_rfl
attribute [local go_sem 3000] run_neq_self run_eqls_self modes_f2
/-- What moves leave. -/
def SvI (D : Vz.Gd) (p : Vz.Ps) (A : An) : Prop := A.S.D = D ∧ A.sv = p ∧ A.lost = 0
theorem dir_text (n : Nat) (b : UInt8) : (⟨#[27, 91]⟩ ++ dgB n ++ ⟨[b].toArray⟩ : ByteArray).data.toList = 27 :: 91 :: (Vz.digN n ++ [b]) := by
 unfold dgB
 simp [ByteArray.data_append]
set_option maxHeartbeats 32000000 in
theorem law_ans_main (R C : Nat) (hf : smallS R C = true) (s : ByteArray) (hs : s.size ≤ 300) (AM : Option Addr) (m cap : Nat) (L : List (Int × Int)) (hm60 : m ≤ 60) (w : World) (hbl : Blanked w) (hmv : Movs w.heap.size w AM m L) : Calls Tryz.prog 4 #[.agg #[.int .i64 R, .int .i64 C], .string s, .slice AM m cap] w fun e w' => e = .returned (.bool true) ∧ Below w.heap.size w w' := by
 have hf' : 1 ≤ (R : Int) ∧ (R : Int) ≤ 30 ∧ 1 ≤ (C : Int) ∧ (C : Int) ≤ 40 := of_decide_eq_true hf
 have hm : Vz.mayS R C = true := (Vz.mayS_iff _ _).2 (by omega)
 have HAW := Lib.hid (fun W (hb : Below w.heap.size w W) => awake_any W (hbl.below hb))
 have HN := Lib.hid (fun W (hb : Below w.heap.size w W) => made_ok R C 50 hm (by decide) (by decide) W (hbl.below hb))
 have HFW := Lib.hid (fun W => hf ▸ small_any R C W)
 have hx := heap_alloc_new w (.cells #[.int .i64 R, .int .i64 C] 23)
 have HX0 := Lib.hid hx
 obtain ⟨x0, x1, g0, g1⟩ := row2 hx
 have HB0 := Lib.hid (below1 w (.cells #[.int .i64 R, .int .i64 C] 23))
 have h1' : ¬ (300 < (s.size : Int)) := by omega
 have h2' : ¬ (60 < (m : Int)) := by omega
 have HMV := Lib.hid hmv
 have HMY := Lib.hid hm
 -- what the model does
 have hd1 := feedN_dims s.data.toList (newN R C 50)
 have hl1 : (feedN (newN R C 50) s.data.toList).lost ≤ 300 := by have := hd1.2; have e : s.data.toList.length = s.size := rfl; have e2 : (newN R C 50).lost = 0 := rfl; omega
 have HSM : Hid (SmallA (newN R C 50)) := ⟨by show R ≤ 98; omega, by show C ≤ 98; omega⟩
 have HL0 : Hid ((newN R C 50).lost + s.size ≤ 90000) := by show 0 + s.size ≤ 90000; omega
 have HD1 : Hid ((feedN (newN R C 50) s.data.toList).S.D.R = R ∧ (feedN (newN R C 50) s.data.toList).S.D.C = C) := hd1.1
 have HL1 := Lib.hid hl1
 clear hd1 hl1 hbl hf hm hx g0 g1 hmv
 generalize hA0 : newN R C 50 = A0 at *
 clear hA0
 generalize hA1 : feedN A0 s.data.toList = A1 at *
 have HA1 := Lib.hid hA1
 clear hA1
 have HSM1 : Hid (SmallA A1) := ⟨by rw [HD1.out.1]; omega, by rw [HD1.out.2]; omega⟩
 have HLL1 : Hid (A1.lost + (⟨#[27, 91, 115]⟩ : ByteArray).size ≤ 90000) := by show A1.lost + 3 ≤ 90000; have := HL1.out; omega
 have hs2 := save_feed A1
 have HS2 : Hid ((feedN A1 [27, 91, 115]).S.D = A1.S.D ∧ (feedN A1 [27, 91, 115]).sv = (feedN A1 [27, 91, 115]).S.pl.at_ ∧ (feedN A1 [27, 91, 115]).lost = 0) := by show _ ∧ _; rw [hs2]; exact ⟨rfl, rfl, rfl⟩
 clear hs2
 go_enter Tryz.func4, Tryz.ntmps4
 go_upto_region 8 with (first
  | (go_at_call 7; refine (HFW.out _).mono ?_; rintro e w1 ⟨rfl, hb1⟩; have HB1 := Lib.hid (Below.later HB0.out hb1 HB0.out.size); have HX1 := Lib.hid ((hb1.block _ (block_lt HX0.out)).trans HX0.out); clear x0 x1; obtain ⟨x0, x1, _⟩ := row2 HX1.out; clear hb1)
  | (go_at_call 9; refine (HN.out _ HB1.out).mono ?_; rintro e w2 ⟨wp, P, G, rfl, hmd⟩; clear x0 x1; obtain ⟨c0, c1, c2⟩ := hmd.cells; have HM2 := Lib.hid hmd; clear hmd)
  | (go_at_call 10; refine (made_feed HM3.out HSM1.out ⟨#[27, 91, 115]⟩ HLL1.out).mono ?_; rintro e w4 ⟨rfl, G4, hmd⟩; clear c0 c1 c2; obtain ⟨c0, c1, c2⟩ := hmd.cells; have HM4 : Hid (MadeA w1 w4 wp P G4 (feedN A1 [27, 91, 115])) := hmd; clear hmd)
  | (go_at_call 10; refine (made_feed HM2.out HSM.out s HL0.out).mono ?_; rintro e w3 ⟨rfl, G3, hmd⟩; rw [HA1.out] at hmd; clear c0 c1 c2; obtain ⟨c0, c1, c2⟩ := hmd.cells; have HM3 := Lib.hid hmd; clear hmd))
 generalize feedN A1 [27, 91, 115] = A2 at *
 have hin := HM4.out.an.here
 have HIN := Lib.hid hin.1
 have HMD := Lib.hid hin.2
 obtain ⟨p, hp⟩ : ∃ p, A2.S.pl.at_ = p := ⟨_, rfl⟩
 obtain ⟨D, hD⟩ : ∃ D, A2.S.D = D := ⟨_, rfl⟩
 have HSV : Hid (SvI D p A2) := ⟨hD, HS2.out.2.1.trans hp, HS2.out.2.2⟩
 have HDR : Hid (D.R = R ∧ D.C = C) := by rw [← hD, HS2.out.1]; exact HD1.out
 have HPI : Hid (p.inS D.R D.C) := by rw [← hp, ← hD]; exact HIN.out
 have HMA : Hid (D.may) := by rw [← hD]; exact HMD.out
 have hcu := made_cursor HM4.out
 rw [hp] at hcu
 have HCU := Lib.hid hcu
 have hro : ∀ W, Below w4.heap.size w4 W → _ := fun W hb => made_rows (HM4.out.below hb)
 rw [hD] at hro
 have HRO := Lib.hid hro
 clear hin HIN HMD hcu hro hp hD
 go_upto_region 10 with (first
  | (go_at_call 13; refine HCU.out.mono ?_; rintro e w5 ⟨rfl, hb5⟩; have HB5 := Lib.hid (hb5.alloc hb5.size (.cells #[.int .i64 p.row, .int .i64 p.col] 39)); have HP5 := Lib.hid (heap_alloc_new w5 (.cells #[.int .i64 p.row, .int .i64 p.col] 39)); have HZ5 := Lib.hid hb5.size; clear hb5 c0 c1 c2; obtain ⟨c0, c1, c2⟩ := (HM4.out.below HB5.out).cells)
  | (go_at_call 14; refine (HRO.out _ HB5.out).mono ?_; rintro e w6 ⟨OB, GR, KR, rfl, hr, hb6⟩; have HR6 := Lib.hid hr; have HB6 := Lib.hid (Below.later HB5.out hb6 HB5.out.size); have HP6 := Lib.hid ((hb6.block _ (block_lt HP5.out)).trans HP5.out); clear hb6 hr))
 clear c0 c1 c2
 have HH6 := Lib.hid (Held.start HM4.out HB6.out)
 have HLO : Hid (w4.heap.size ≤ (w5.alloc (.cells #[.int .i64 p.row, .int .i64 p.col] 39)).heap.size ∧ w5.heap.size < w6.heap.size) := ⟨HB5.out.size, block_lt HP6.out⟩
 go_wp2_with fail
 go_loopw [12] (fun i wr => ∃ (k : Nat) (A : An) (G : Nat → Prop), k ≤ m ∧ i = .int .i64 (k : Int) ∧ SvI D p A ∧ Held w1 w6 wr wp P w4.heap.size w6.heap.size G A) (fun i _ => m - (intOf i).toNat)
 case atStart => exact ⟨0, A2, G4, Nat.zero_le _, rfl, HSV.out, HH6.out⟩
 case round =>
  obtain ⟨k, A, G, hk, rfl, hsv, hh⟩ := hrel
  have HSA := Lib.hid hsv
  have HH := Lib.hid hh
  have HBW := Lib.hid (Below.later HB1.out hh.1.bel HB1.out.size)
  have HSMA : Hid (SmallA A) := ⟨by rw [hsv.1, HDR.out.1]; omega, by rw [hsv.1, HDR.out.2]; omega⟩
  clear hsv hh
  by_cases hlt : k < m
  · obtain ⟨b, o, rfl, hbl, hmo⟩ := (HMV.out.below HBW.out (Nat.le_refl _)).at_ hlt
    generalize L[k]?.getD (0, 0) = x at hmo
    obtain ⟨v1, v2⟩ := x
    obtain ⟨e0, e1⟩ := hmo
    have hkz : (k : Int) < (m : Int) := by omega
    have hwk : IntKind.i64.wrap ((k : Int) + 1) = ((k + 1 : Nat) : Int) := by rw [wrap_in (by omega) (by omega)]; rfl
    have hy := heap_alloc_new wr (.cells #[.int .i64 v1, .int .i64 v2] 24)
    have HYX := Lib.hid hy
    have HBX := Lib.hid (below1 wr (.cells #[.int .i64 v1, .int .i64 v2] 24))
    obtain ⟨u0, u1, _⟩ := row2 hy
    clear hy
    go_upto_region 14 with fail
    clear e0 e1
    generalize hWX : wr.alloc (.cells #[.int .i64 v1, .int .i64 v2] 24) = wx at *
    clear hWX
    have HHX := Lib.hid (HH.out.below HBX.out)
    have HBWX := Lib.hid (Below.later HBW.out HBX.out HBW.out.size)
    by_cases hbad : v1 < 0 ∨ (¬ v1 < 0 ∧ 4 < v1) ∨ (¬ v1 < 0 ∧ ¬ 4 < v1 ∧ v2 < 0) ∨ (¬ v1 < 0 ∧ ¬ 4 < v1 ∧ ¬ v2 < 0 ∧ 9999 < v2)
    · rcases hbad with q1 | ⟨q1, q2⟩ | ⟨q1, q2, q3⟩ | ⟨q1, q2, q3, q4⟩
      all_goals (
       go_wp2_with (go_at_call 8; refine (HAW.out _ HBWX.out).mono ?_; rintro e w9 ⟨rfl, hb9⟩; have HB9 := Lib.hid (Below.later HBWX.out hb9 HBWX.out.size); clear hb9)
       go_ret
       exact ⟨rfl, HB9.out⟩)
    have q1 : ¬ v1 < 0 := by omega
    have q2 : ¬ 4 < v1 := by omega
    have q3 : ¬ v2 < 0 := by omega
    have q4 : ¬ 9999 < v2 := by omega
    clear hbad
    obtain ⟨d, rfl⟩ := Int.eq_ofNat_of_zero_le (show 0 ≤ v1 by omega)
    obtain ⟨n, rfl⟩ := Int.eq_ofNat_of_zero_le (show 0 ≤ v2 by omega)
    have hd5 : d < 5 := by omega
    have hwd : IntKind.i64.wrap ((d : Int) + 1) = (d : Int) + 1 := wrap_in (by omega) (by omega)
    have hsl : ∀ W, Sem.run Tryz.prog (Instr.slice 9 (.string ⟨#[65, 66, 67, 68, 72]⟩) (some (.int .i64 (d : Int))) (some (.int .i64 ((d : Int) + 1))) none) W = .ok (.string ⟨[dirL[d]'hd5].toArray⟩) W := fun W => byte_runL dirL d hd5 W
    have hzn := dgB_size n (by omega)
    have hz1 : (⟨[dirL[d]'hd5].toArray⟩ : ByteArray).size = 1 := rfl
    have sa1 : ¬ 9223372036854775807 < 2 + (dgB n).size := by omega
    have sa2 : ¬ 9223372036854775807 < 2 + (dgB n).size + 1 := by omega
    have HNU := Lib.hid (fun W => numb_ok 3 n (by omega) (by omega) W)
    have HTX := Lib.hid (dir_text n (dirL[d]'hd5))
    have hmf := move_feed A d hd5 n (by omega)
    have HSA' : Hid (SvI D p (feedN A (27 :: 91 :: (Vz.digN n ++ [dirL[d]'hd5])))) := ⟨hmf.1.trans HSA.out.1, hmf.2.1.trans HSA.out.2.1, hmf.2.2⟩
    have HLN : Hid ((27 :: 91 :: (Vz.digN n ++ [dirL[d]'hd5])).length ≤ 20) := by
     show _ ≤ _
     have := Vz.digN_len n (by omega)
     simp only [List.length_cons, List.length_append, List.length_nil]
     omega
    clear hmf
    generalize (dirL[d]'hd5) = bd at *
    have HFD : Hid (∀ W, Below wx.heap.size wx W → ∀ t : ByteArray, t.data.toList = 27 :: 91 :: (Vz.digN n ++ [bd]) → Calls Tryz.prog 10 #[.pointer (some ⟨P.tp, 0, none⟩), .string t] W fun e w' => e = .returned (.tuple #[]) ∧ ∃ G', Held w1 w6 w' wp P w4.heap.size w6.heap.size G' (feedN A (27 :: 91 :: (Vz.digN n ++ [bd])))) := by
     intro W hW t ht
     have hz : t.size = (27 :: 91 :: (Vz.digN n ++ [bd])).length := by rw [← ht]; rfl
     have hN := HLN.out
     have hL := HSA.out.2.2
     have := (HHX.out.below hW).feed HSMA.out t (by omega)
     rw [ht] at this
     exact this
    generalize feedN A (27 :: 91 :: (Vz.digN n ++ [bd])) = A' at *
    have HBD : Hid (Below wx.heap.size wx wx.drew) := (Below.refl _ _).drew
    have HYW : Hid (∀ W, Below wx.heap.size wx W → MadeA w1 W wp P G A ∧ W.heap[wr.heap.size]? = some (.cells #[.int .i64 (d : Int), .int .i64 (n : Int)] 24 (0, 0))) := fun W hW => ⟨HHX.out.1.below hW, (hW.block _ (block_lt HYX.out)).trans HYX.out⟩
    go_upto_region 16 with fail
    clear u0 u1
    refine wp_region_noPanic ?_
    refine wp_region_k (S := fun W : World => Below wx.heap.size wx W) 15 (by kernel_rfl) (HBD.out) (fun hHeld => ?_)
    refine kSK 0 hHeld ?_
    refine kSK 1 hHeld ?_
    refine kSK 2 hHeld ?_
    refine kTK (v := ?_) 3 [] hHeld ?y4 ?_
    case y4 => (intro W hSw; obtain ⟨y0, y1, y2⟩ := (HYW.out _ hSw).1.cells; obtain ⟨z0, z1, _⟩ := row2 (HYW.out _ hSw).2; go_simp; try with_reducible rfl)
    refine kSK 4 hHeld ?_
    try refine kNK ?_
    refine kTK (v := ?_) 5 [6] hHeld ?y6 ?_
    case y6 => (intro W hSw; obtain ⟨y0, y1, y2⟩ := (HYW.out _ hSw).1.cells; obtain ⟨z0, z1, _⟩ := row2 (HYW.out _ hSw).2; go_simp; try with_reducible rfl)
    refine kSK 8 hHeld ?_
    refine kTK (v := ?_) 9 [14, 13] hHeld ?y8 ?_
    case y8 => (intro W hSw; obtain ⟨y0, y1, y2⟩ := (HYW.out _ hSw).1.cells; obtain ⟨z0, z1, _⟩ := row2 (HYW.out _ hSw).2; go_simp; try with_reducible rfl)
    refine kSK 10 hHeld ?_
    refine kTK (v := ?_) 11 [14, 13, 12] hHeld ?y10 ?_
    case y10 => (intro W hSw; obtain ⟨y0, y1, y2⟩ := (HYW.out _ hSw).1.cells; obtain ⟨z0, z1, _⟩ := row2 (HYW.out _ hSw).2; go_simp; try with_reducible rfl)
    try refine kNK ?_
    refine kSK 12 hHeld ?_
    refine kSK 13 hHeld ?_
    try refine kNK ?_
    refine kOK 6 fun KQ hKQ => ?_
    go_simp
    go_at_call 12
    refine (HNU.out _).mono ?_
    rintro e w7 ⟨rfl, hb7⟩
    have hs7 := Below.later hHeld hb7 hHeld.size
    clear hb7
    go_wp2_with fail
    refine hKQ.out _ _ (hs7) ?_
    clear hHeld hKQ KQ
    intro hHeld
    try refine kNK ?_
    clear hs7
    refine kSK 7 hHeld ?_
    refine kSK 14 hHeld ?_
    try refine kNK ?_
    refine kPK 15 fun KQ hKQ => ?_
    go_simp
    go_at_call 10
    refine (HFD.out _ hHeld _ HTX.out).mono ?_
    rintro e w8 ⟨rfl, G8, hh⟩
    have HH8 := Lib.hid hh
    clear hh
    go_wp2_with fail
    refine hKQ.out _ _ ?_
    clear hKQ KQ
    try refine kNK ?_
    refine wpAnyK_done (by kernel_rfl) ?_ _
    refine NoPanic.normal ?_
    clear hHeld hsl
    go_wp2_with fail
    exact ⟨⟨k + 1, A', G8, by omega, rfl, HSA'.out, HH8.out⟩, by simp [intOf]; omega⟩
  · obtain rfl : k = m := by omega
    have hbf := back_feed A
    have HAB : Hid ((feedN A [27, 91, 117]).S.D = D ∧ (feedN A [27, 91, 117]).sv = p ∧ (feedN A [27, 91, 117]).S.pl = ⟨p, false⟩) := by
     show _ ∧ _
     rw [hbf]
     refine ⟨HSA.out.1, HSA.out.2.1, ?_⟩
     show Vz.Pl.mk (Vz.nearP A.S.D.R A.S.D.C A.sv) false = _
     rw [HSA.out.1, HSA.out.2.1, Vz.nearP_id _ _ _ (Vz.Gd.may_mayS HMA.out) HPI.out]
    have HLL : Hid (A.lost + (⟨#[27, 91, 117]⟩ : ByteArray).size ≤ 90000) := by show A.lost + 3 ≤ 90000; have := HSA.out.2.2; omega
    obtain ⟨y0, y1, y2⟩ := HH.out.1.cells
    clear hbf
    go_upto_region 18 with (go_at_call 10; refine (HH.out.feed HSMA.out ⟨#[27, 91, 117]⟩ HLL.out).mono ?_; rintro e w8 ⟨rfl, G8, hh⟩; have HH8 : Hid (Held w1 w6 w8 wp P w4.heap.size w6.heap.size G8 (feedN A [27, 91, 117])) := hh; clear hh)
    generalize feedN A [27, 91, 117] = A4 at *
    clear y0 y1 y2
    obtain ⟨y0, y1, y2⟩ := HH8.out.1.cells
    have hcu := made_cursor HH8.out.1
    rw [HAB.out.2.2] at hcu
    have HCU8 : Hid (Calls Tryz.prog 13 #[.pointer (some ⟨P.sp, 0, none⟩)] w8 fun e w' => e = .returned (.tuple #[.agg #[.int .i64 p.row, .int .i64 p.col], .bool false]) ∧ Below w8.heap.size w8 w') := hcu
    have hro : ∀ W, Below w8.heap.size w8 W → _ := fun W hb => made_rows (HH8.out.1.below hb)
    rw [HAB.out.1] at hro
    have HRO8 := Lib.hid hro
    clear hcu hro
    go_upto_region 20 with (first
     | (go_at_call 13; refine HCU8.out.mono ?_; rintro e w9 ⟨rfl, hb9⟩; have HB9 := Lib.hid (hb9.alloc hb9.size (.cells #[.int .i64 p.row, .int .i64 p.col] 39)); have HQ9 := Lib.hid (heap_alloc_new w9 (.cells #[.int .i64 p.row, .int .i64 p.col] 39)); clear hb9 y0 y1 y2; obtain ⟨y0, y1, y2⟩ := (HH8.out.1.below HB9.out).cells)
     | (go_at_call 14; refine (HRO8.out _ HB9.out).mono ?_; rintro e w10 ⟨OB2, GR2, KR2, rfl, hr, hb10⟩; have HR10 := Lib.hid hr; have HB10 := Lib.hid (Below.later HB9.out hb10 HB9.out.size); have HQ10 := Lib.hid ((hb10.block _ (block_lt HQ9.out)).trans HQ9.out); clear hb10 hr))
    clear y0 y1 y2
    have HH10 := Lib.hid (HH8.out.below HB10.out)
    have HRA := Lib.hid (fun W (hb : Below w10.heap.size w10 W) => ((HH10.out.rows HR6.out HLO.out.1 rfl).below hb))
    have HRB := Lib.hid (fun W (hb : Below w10.heap.size w10 W) => HR10.out.below hb)
    have HP10 : Hid (w10.heap[w5.heap.size]? = some (.cells #[.int .i64 p.row, .int .i64 p.col] 39 (0, 0))) := (HH10.out.2.2.1 _ (by have := HZ5.out; exact this) HLO.out.2).trans HP6.out
    have HBR0 : Hid (Below w10.heap.size w10 w10) := Below.refl _ _
    obtain ⟨dr, dc⟩ := HDR.out
    have hRz : (D.R : Int) = (R : Int) := by rw [dr]
    go_wp2_with fail
    go_loopw [17] (fun i wr => ∃ k : Nat, k ≤ D.R ∧ i = .int .i64 (k : Int) ∧ Below w10.heap.size w10 wr) (fun i _ => D.R - (intOf i).toNat)
    case atStart => exact ⟨0, Nat.zero_le _, rfl, HBR0.out⟩
    case round =>
     obtain ⟨k, hk, rfl, hbr⟩ := hrel
     have HBR := Lib.hid hbr
     have HBD : Hid (Below w10.heap.size w10 wr.drew) := hbr.drew
     clear hbr
     by_cases hlt : k < D.R
     · have hkz : (k : Int) < (D.R : Int) := by omega
       have hwk : IntKind.i64.wrap ((k : Int) + 1) = ((k + 1 : Nat) : Int) := by rw [wrap_in (by omega) (by omega)]; rfl
       have hC0 : 0 < D.C := by omega
       go_upto_region 25 with fail
       refine wp_region_noPanic ?_
       refine wp_region_k (S := fun W : World => Below w10.heap.size w10 W) 999 (by kernel_rfl) (HBD.out) (fun hHeld => ?_)
       refine kSK 0 hHeld ?_
       refine kSK 1 hHeld ?_
       refine kSK 2 hHeld ?_
       refine kHK (v := ?_) 3 hHeld ?y4 ?_
       case y4 => (intro W hSw; obtain ⟨p0, _⟩ := (HRA.out _ hSw).cell4 hlt hC0; obtain ⟨q0, _⟩ := (HRB.out _ hSw).cell4 hlt hC0; go_simp; try with_reducible rfl)
       refine kSK 4 hHeld ?_
       try refine kNK ?_
       refine kSK 5 hHeld ?_
       refine kSK 6 hHeld ?_
       refine kSK 7 hHeld ?_
       refine kHK (v := ?_) 8 hHeld ?y9 ?_
       case y9 => (intro W hSw; obtain ⟨p0, _⟩ := (HRA.out _ hSw).cell4 hlt hC0; obtain ⟨q0, _⟩ := (HRB.out _ hSw).cell4 hlt hC0; go_simp; try with_reducible rfl)
       refine kSK 9 hHeld ?_
       try refine kNK ?_
       refine kSK 10 hHeld ?_
       try refine kNK ?_
       refine wpAnyK_done (by kernel_rfl) ?_ _
       refine NoPanic.normal ?_
       clear hHeld
       go_wp2_with fail
       go_loopw [18] (fun j wr => ∃ q : Nat, q ≤ D.C ∧ j = .int .i64 (q : Int) ∧ Below w10.heap.size w10 wr) (fun j _ => D.C - (intOf j).toNat)
       case atStart => exact ⟨0, Nat.zero_le _, rfl, HBD.out⟩
       case round =>
        obtain ⟨q, hq, rfl, hbr2⟩ := hrel
        have HBR2 := Lib.hid hbr2
        have HBD2 : Hid (Below w10.heap.size w10 wr.drew) := hbr2.drew
        obtain ⟨g0, _⟩ := (HRB.out _ hbr2).cell4 hlt hC0
        clear hbr2
        by_cases hlq : q < D.C
        · have hqz : (q : Int) < (D.C : Int) := by omega
          have hwq : IntKind.i64.wrap ((q : Int) + 1) = ((q + 1 : Nat) : Int) := by rw [wrap_in (by omega) (by omega)]; rfl
          go_upto_region 30 with fail
          clear g0
          refine wp_region_noPanic ?_
          refine wp_region_k (S := fun W : World => Below w10.heap.size w10 W) 999 (by kernel_rfl) (HBD2.out) (fun hHeld => ?_)
          refine kSK 0 hHeld ?_
          refine kSK 1 hHeld ?_
          refine kSK 2 hHeld ?_
          refine kHK (v := ?_) 3 hHeld ?y4 ?_
          case y4 => (intro W hSw; obtain ⟨p0, p1, p2, p3, p4⟩ := (HRA.out _ hSw).cell4 hlt hlq; obtain ⟨q0, q1, q2, q3, q4⟩ := (HRB.out _ hSw).cell4 hlt hlq; go_simp; try with_reducible rfl)
          refine kSK 4 hHeld ?_
          try refine kNK ?_
          refine kSK 5 hHeld ?_
          refine kHK (v := ?_) 6 hHeld ?y7 ?_
          case y7 => (intro W hSw; obtain ⟨p0, p1, p2, p3, p4⟩ := (HRA.out _ hSw).cell4 hlt hlq; obtain ⟨q0, q1, q2, q3, q4⟩ := (HRB.out _ hSw).cell4 hlt hlq; go_simp; try with_reducible rfl)
          refine kSK 7 hHeld ?_
          refine kSK 8 hHeld ?_
          refine kSK 9 hHeld ?_
          try refine kNK ?_
          refine kHK (v := ?_) 10 hHeld ?y11 ?_
          case y11 => (intro W hSw; obtain ⟨p0, p1, p2, p3, p4⟩ := (HRA.out _ hSw).cell4 hlt hlq; obtain ⟨q0, q1, q2, q3, q4⟩ := (HRB.out _ hSw).cell4 hlt hlq; go_simp; try with_reducible rfl)
          refine kSK 11 hHeld ?_
          refine kSK 12 hHeld ?_
          refine kHK (v := ?_) 13 hHeld ?y14 ?_
          case y14 => (intro W hSw; obtain ⟨p0, p1, p2, p3, p4⟩ := (HRA.out _ hSw).cell4 hlt hlq; obtain ⟨q0, q1, q2, q3, q4⟩ := (HRB.out _ hSw).cell4 hlt hlq; go_simp; try with_reducible rfl)
          refine kSK 14 hHeld ?_
          try refine kNK ?_
          refine wpAnyK_done (by kernel_rfl) ?_ _
          refine NoPanic.normal ?_
          clear hHeld
          go_wp2_with fail
          exact ⟨⟨q + 1, by omega, rfl, HBD2.out⟩, by simp [intOf]; omega⟩
        · obtain rfl : q = D.C := by omega
          go_wp2_with fail
          exact ⟨⟨k + 1, by omega, rfl, HBR2.out⟩, by simp [intOf]; omega⟩
     · obtain rfl : k = D.R := by omega
       have HH11 := Lib.hid (HH10.out.below HBR.out)
       have HP11 := Lib.hid ((HBR.out.block _ (block_lt HP10.out)).trans HP10.out)
       have HQ11 := Lib.hid ((HBR.out.block _ (block_lt HQ10.out)).trans HQ10.out)
       have HB11 : Hid (Below wr.heap.size wr wr.drew) := (Below.refl _ _).drew
       have HYZ : Hid (∀ W, Below wr.heap.size wr W → MadeA w1 W wp P G8 A4 ∧ W.heap[w5.heap.size]? = some (.cells #[.int .i64 p.row, .int .i64 p.col] 39 (0, 0)) ∧ W.heap[w9.heap.size]? = some (.cells #[.int .i64 p.row, .int .i64 p.col] 39 (0, 0))) := fun W hW => ⟨HH11.out.1.below hW, (hW.block _ (block_lt HP11.out)).trans HP11.out, (hW.block _ (block_lt HQ11.out)).trans HQ11.out⟩
       have HMO : Hid (∀ W, Below wr.heap.size wr W → Calls Tryz.prog 15 #[.pointer (some ⟨P.tp, 0, none⟩)] W fun e w' => e = .returned (.agg #[.int .i64 A4.attr, .bool A4.wrap, .int .i64 p.row, .int .i64 p.col]) ∧ Below W.heap.size W w') := fun W hW => by
        have := made_modes (HYZ.out W hW).1
        rw [HAB.out.2.1] at this
        exact this
       have HBT := Lib.hid (Below.later HB1.out HH11.out.1.bel HB1.out.size)
       go_upto_region 32 with fail
       refine wp_region_noPanic ?_
       refine wp_region_k (S := fun W : World => Below wr.heap.size wr W) 14 (by kernel_rfl) (HB11.out) (fun hHeld => ?_)
       refine kTK (v := ?_) 0 [13, 12, 3, 2] hHeld ?y1 ?_
       case y1 => (intro W hSw; obtain ⟨y0, y1, y2⟩ := (HYZ.out _ hSw).1.cells; obtain ⟨p0, p1, _⟩ := row2 (HYZ.out _ hSw).2.1; obtain ⟨q0, q1, _⟩ := row2 (HYZ.out _ hSw).2.2; go_simp; try with_reducible rfl)
       refine kTK (v := ?_) 1 [13, 12, 3, 2] hHeld ?y2 ?_
       case y2 => (intro W hSw; obtain ⟨y0, y1, y2⟩ := (HYZ.out _ hSw).1.cells; obtain ⟨p0, p1, _⟩ := row2 (HYZ.out _ hSw).2.1; obtain ⟨q0, q1, _⟩ := row2 (HYZ.out _ hSw).2.2; go_simp; try with_reducible rfl)
       refine kSK 2 hHeld ?_
       refine kSK 3 hHeld ?_
       refine kSK 4 hHeld ?_
       try refine kNK ?_
       refine kSK 5 hHeld ?_
       refine kSK 6 hHeld ?_
       refine kTK (v := ?_) 7 [13, 8] hHeld ?y8 ?_
       case y8 => (intro W hSw; obtain ⟨y0, y1, y2⟩ := (HYZ.out _ hSw).1.cells; obtain ⟨p0, p1, _⟩ := row2 (HYZ.out _ hSw).2.1; obtain ⟨q0, q1, _⟩ := row2 (HYZ.out _ hSw).2.2; go_simp; try with_reducible rfl)
       refine kTK (v := ?_) 10 [13, 12, 11] hHeld ?y9 ?_
       case y9 => (intro W hSw; obtain ⟨y0, y1, y2⟩ := (HYZ.out _ hSw).1.cells; obtain ⟨p0, p1, _⟩ := row2 (HYZ.out _ hSw).2.1; obtain ⟨q0, q1, _⟩ := row2 (HYZ.out _ hSw).2.2; go_simp; try with_reducible rfl)
       try refine kNK ?_
       refine kOK 8 fun KQ hKQ => ?_
       go_simp
       go_at_call 15
       refine (HMO.out _ hHeld).mono ?_
       rintro e w13 ⟨rfl, hb13⟩
       have hs13 := Below.later hHeld hb13 hHeld.size
       clear hb13
       go_wp2_with fail
       refine hKQ.out _ _ (hs13) ?_
       clear hHeld hKQ KQ
       intro hHeld
       try refine kNK ?_
       clear hs13
       refine kSK 9 hHeld ?_
       refine kSK 11 hHeld ?_
       refine kSK 12 hHeld ?_
       refine kSK 13 hHeld ?_
       try refine kNK ?_
       refine kPK 14 fun KQ hKQ => ?_
       go_simp
       go_at_call 8
       refine (HAW.out _ (Below.later HBT.out hHeld HBT.out.size)).mono ?_
       rintro e w14 ⟨rfl, hb14⟩
       have HB14 := Lib.hid (Below.later (Below.later HBT.out hHeld HBT.out.size) hb14 (Below.later HBT.out hHeld HBT.out.size).size)
       clear hb14
       go_wp2_with fail
       refine hKQ.out _ _ ?_
       clear hKQ KQ
       try refine kNK ?_
       refine kBK 15 ?_
       refine kBK 16 ?_
       try refine kNK ?_
       refine wpAnyK_done (by kernel_rfl) ?_ _
       refine NoPanic.normal ?_
       go_wp2_with fail
       go_ret
       exact ⟨rfl, HB14.out⟩
set_option maxHeartbeats 4000000 in
/-- What is not asked: only the chapter's example. -/
theorem law_ans_no (r c : Int) (s : ByteArray) (AM : Option Addr) (m cap : Nat) (w : World) (hbl : Blanked w) (h : smallS r c = false ∨ (smallS r c = true ∧ 300 < (s.size : Int)) ∨ (smallS r c = true ∧ ¬ (300 < (s.size : Int)) ∧ 60 < (m : Int))) :
 Calls Tryz.prog 4 #[.agg #[.int .i64 r, .int .i64 c], .string s, .slice AM m cap] w fun e w' => e = .returned (.bool true) ∧ Below w.heap.size w w' := by
 have HAW := Lib.hid (fun W (hb : Below w.heap.size w W) => awake_any W (hbl.below hb))
 have HFW := Lib.hid (fun W => small_any r c W)
 obtain ⟨x0, x1, g0, g1⟩ := row2 (heap_alloc_new w (.cells #[.int .i64 r, .int .i64 c] 23))
 have HB0 := Lib.hid (below1 w (.cells #[.int .i64 r, .int .i64 c] 23))
 clear hbl
 rcases h with h | ⟨h, h1⟩ | ⟨h, h1, h2⟩
 all_goals (
  rw [h] at HFW
  go_enter Tryz.func4, Tryz.ntmps4
  go_wp2_with (first
   | (go_at_call 7; refine (HFW.out _).mono ?_; rintro e w1 ⟨rfl, hb1⟩; have HB1 := Lib.hid (Below.later HB0.out hb1 HB0.out.size); clear hb1)
   | (go_at_call 8; refine (HAW.out _ HB1.out).mono ?_; rintro e w9 ⟨rfl, hb9⟩; have HB9 := Lib.hid (Below.later HB1.out hb9 HB1.out.size); clear hb9))
  go_ret
  exact ⟨rfl, HB9.out⟩)
theorem law_ans (r c : Int) (s : ByteArray) (AM : Option Addr) (m cap : Nat) (L : List (Int × Int)) (w : World) (hbl : Blanked w) (hmv : Movs w.heap.size w AM m L) : Calls Tryz.prog 4 #[.agg #[.int .i64 r, .int .i64 c], .string s, .slice AM m cap] w fun e w' => e = .returned (.bool true) ∧ Below w.heap.size w w' := by
 cases hf : smallS r c with
 | false => exact law_ans_no r c s AM m cap w hbl (.inl hf)
 | true =>
   by_cases h1 : 300 < (s.size : Int)
   · exact law_ans_no r c s AM m cap w hbl (.inr (.inl ⟨hf, h1⟩))
   by_cases h2 : 60 < (m : Int)
   · exact law_ans_no r c s AM m cap w hbl (.inr (.inr ⟨hf, h1, h2⟩))
   have hf' : 1 ≤ r ∧ r ≤ 30 ∧ 1 ≤ c ∧ c ≤ 40 := of_decide_eq_true hf
   obtain ⟨R, rfl⟩ := Int.eq_ofNat_of_zero_le (show 0 ≤ r by omega)
   obtain ⟨C, rfl⟩ := Int.eq_ofNat_of_zero_le (show 0 ≤ c by omega)
   exact law_ans_main R C hf s (by omega) AM m cap L (by omega) w hbl hmv
end Go.Proofs.YtmgeghoalmonoaaGreatDoor
