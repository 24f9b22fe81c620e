import Derived.Test.YteoeooijpjehpaaGreatDoorII
import Derived.Test.YteoeooijpjehpaaGreatDoorIH
import Derived.Test.YteoeooijpjehpaaGreatDoorIE
import Derived.Test.YteoeooijpjehpaaGreatDoorIJ
import Derived.Deep.CutBlock

set_option maxRecDepth 100000
set_option maxHeartbeats 16000000
namespace Go.Proofs.YteoeooijpjehpaaGreatDoor
open Go.RowKit
set_option linter.unusedSimpArgs false
set_option linter.unusedVariables false
/- Walks: a Wyse 60's send. -/
section
attribute [local go_sem] alloc_drewN setCell_drewN World.cell?_alloc_some frozen_alloc_some size_f0 size_f1
theorem ba_snoc (l : List UInt8) (b : UInt8) : (⟨l.toArray⟩ : ByteArray) ++ ⟨#[b]⟩ = ⟨(l ++ [b]).toArray⟩ := by
 apply ByteArray.ext
 simp
theorem wys_send {w : World} {tp sp qp lb fr : Nat} {A : Wy} {F : Nat → Prop} {S : Vz.Sr} {qq : List UInt8} {over : Bool} (h : Wys w tp sp qp A F S) (hqu : QueAt w qp lb fr A.most qq over) (r a q b : Nat) (hq : q < S.D.R) (ha : a < S.D.C) (hb : b < S.D.C) (hle : r < q ∨ (r = q ∧ a ≤ b)) :
 Calls Tryz.prog 140 #[.pointer (some ⟨tp, 0, none⟩), .agg #[.int .i64 (r : Int), .int .i64 (a : Int)], .agg #[.int .i64 (q : Int), .int .i64 (b : Int)]] w fun e w' => e = .returned (.tuple #[]) ∧ QueTo w w' qp lb A.most (pushQ A.most qq (sendF ofW S.D r a b (q - r) ++ [13])) (pushO A.most qq (sendF ofW S.D r a b (q - r) ++ [13]) over) := by
 have HA := Lib.hid (fun W (hb : Below w.heap.size w W) => h.below hb)
 have HRO := Lib.hid (fun W (hb : Below w.heap.size w W) => scr_rows sp F S W (h.below hb).scr)
 have hmm := h.scr.here.2
 have hlen : (sendF ofW S.D r a b (q - r) ++ [13]).length ≤ 1000000 := by
  have h1 := sendF_len ofW S.D b hb hmm.2.2.2 (q - r) r a
  have h2 : (q - r + 1) * 511 ≤ 255 * 511 := Nat.mul_le_mul_right _ (by have := hmm.2.1; omega)
  rw [List.length_append]
  simp
  omega
 have HFS := Lib.hid (fun (B : Nat) (W : World) (OB : Nat) (G K : Nat → Nat) (hr : RowsAt B W OB S.D G K) => fsend_ok hr hmm ofW 182 (enters_of Tryz.func182 (by kernel_rfl) rfl) of_w r a q b hq ha hb hle)
 have HQ := Lib.hid (fun W (hb : Below w.heap.size w W) => hqu.below hb)
 have HL := Lib.hid hqu.lt
 obtain ⟨T, hT⟩ : ∃ T, T = sendF ofW S.D r a b (q - r) := ⟨_, rfl⟩
 rw [← hT] at HFS hlen ⊢
 have hcat := ba_snoc T 13
 obtain ⟨L, hL⟩ : ∃ L, L = T ++ [13] := ⟨_, rfl⟩
 rw [← hL] at hcat hlen ⊢
 have HLEN := Lib.hid hlen
 have hTl : ¬ 9223372036854775807 < T.length + 1 := by
  have : L.length = T.length + 1 := by rw [hL, List.length_append]; rfl
  omega
 obtain ⟨n0, n1, nb⟩ := box2 (Below.refl ((w.alloc (.cells #[.int .i64 (r : Int), .int .i64 (a : Int)] 49)).alloc (.cells #[.int .i64 (q : Int), .int .i64 (b : Int)] 49)).heap.size ((w.alloc (.cells #[.int .i64 (r : Int), .int .i64 (a : Int)] 49)).alloc (.cells #[.int .i64 (q : Int), .int .i64 (b : Int)] 49)))
 have HB2 : Hid (Below w.heap.size w ((w.alloc (.cells #[.int .i64 (r : Int), .int .i64 (a : Int)] 49)).alloc (.cells #[.int .i64 (q : Int), .int .i64 (b : Int)] 49)).drew) := nb.drew
 have HX2 : Hid (((w.alloc (.cells #[.int .i64 (r : Int), .int .i64 (a : Int)] 49)).alloc (.cells #[.int .i64 (q : Int), .int .i64 (b : Int)] 49)).drew.heap[w.heap.size]? = some (.cells #[.int .i64 (r : Int), .int .i64 (a : Int)] 49 (0, 0)) ∧ ((w.alloc (.cells #[.int .i64 (r : Int), .int .i64 (a : Int)] 49)).alloc (.cells #[.int .i64 (q : Int), .int .i64 (b : Int)] 49)).drew.heap[w.heap.size + 1]? = some (.cells #[.int .i64 (q : Int), .int .i64 (b : Int)] 49 (0, 0))) := ⟨n0, n1⟩
 clear h hqu hmm hlen hT hL hq ha hb hle n0 n1 nb
 go_enter Tryz.func140, Tryz.ntmps140
 go_upto_region 1 with fail
 refine wp_region_noPanic ?_
 refine wp_region_k (S := fun W : World => Below w.heap.size w W ∧ W.heap[w.heap.size]? = some (.cells #[.int .i64 (r : Int), .int .i64 (a : Int)] 49 (0, 0)) ∧ W.heap[w.heap.size + 1]? = some (.cells #[.int .i64 (q : Int), .int .i64 (b : Int)] 49 (0, 0))) 7 (by kernel_rfl) (⟨HB2.out, HX2.out⟩) (fun hHeld => ?_)
 refine kSK 0 hHeld ?_
 refine kSK 1 hHeld ?_
 refine kSK 2 hHeld ?_
 refine kTK (v := ?_) 3 [4] hHeld ?y4 ?_
 case y4 => (intro W hSw; obtain ⟨y0, y1, _⟩ := (HA.out _ hSw.1).cells; obtain ⟨p0, p1, _⟩ := row2 hSw.2.1; obtain ⟨q0, q1, _⟩ := row2 hSw.2.2; go_simp; try with_reducible rfl)
 refine kTK (v := ?_) 5 [] hHeld ?y5 ?_
 case y5 => (intro W hSw; obtain ⟨y0, y1, _⟩ := (HA.out _ hSw.1).cells; obtain ⟨p0, p1, _⟩ := row2 hSw.2.1; obtain ⟨q0, q1, _⟩ := row2 hSw.2.2; go_simp; try with_reducible rfl)
 try refine kNK ?_
 refine kTK (v := ?_) 6 [] hHeld ?y6 ?_
 case y6 => (intro W hSw; obtain ⟨y0, y1, _⟩ := (HA.out _ hSw.1).cells; obtain ⟨p0, p1, _⟩ := row2 hSw.2.1; obtain ⟨q0, q1, _⟩ := row2 hSw.2.2; go_simp; try with_reducible rfl)
 try refine kNK ?_
 refine kOK 4 fun KQ hKQ => ?_
 go_simp
 go_at_call 38
 refine (HRO.out _ hHeld.1).mono ?_
 rintro e w2 ⟨OB, G, K, rfl, hr2, hb2⟩
 have HR2 := Lib.hid hr2
 have HB3 := Lib.hid (show Below w.heap.size w w2 ∧ w2.heap[w.heap.size]? = some (.cells #[.int .i64 (r : Int), .int .i64 (a : Int)] 49 (0, 0)) ∧ w2.heap[w.heap.size + 1]? = some (.cells #[.int .i64 (q : Int), .int .i64 (b : Int)] 49 (0, 0)) from ⟨Below.later hHeld.1 hb2 hHeld.1.size, (hb2.block _ (block_lt hHeld.2.1)).trans hHeld.2.1, (hb2.block _ (block_lt hHeld.2.2)).trans hHeld.2.2⟩)
 clear hb2 hr2
 go_wp2_with fail
 refine hKQ.out _ _ (HB3.out) ?_
 clear hHeld hKQ KQ
 intro hHeld
 try refine kNK ?_
 refine kPK 7 fun KQ hKQ => ?_
 go_simp
 go_at_call 181
 refine (HFS.out _ _ OB G K HR2.out).mono ?_
 rintro e w3 ⟨rfl, hb3⟩
 have HB4 := Lib.hid (Below.later HB3.out.1 hb3 HB3.out.1.size)
 clear hb3
 go_wp2_with fail
 refine hKQ.out _ _ ?_
 clear hKQ KQ
 try refine kNK ?_
 refine kBK 8 ?_
 refine kBK 9 ?_
 refine kBK 10 ?_
 refine kBK 11 ?_
 refine kBK 12 ?_
 try refine kNK ?_
 refine wpAnyK_done (by kernel_rfl) ?_ _
 refine NoPanic.normal ?_
 obtain ⟨y0, y1, _⟩ := (HA.out _ HB4.out).cells
 have HB5 := Lib.hid (HB4.out.alloc HB4.out.size (.cells #[.string ⟨L.toArray⟩] 9))
 have HS5 := Lib.hid (heap_alloc_new w3 (.cells #[.string ⟨L.toArray⟩] 9))
 have hz3 := HB4.out.size
 go_wp2_with (go_at_call 86; refine (que_push qp lb fr A.most qq over w3.heap.size L _ (HQ.out _ HB5.out) HS5.out (by have := HL.out; omega) (by have := HL.out; omega) HLEN.out).mono ?_; rintro e w4 ⟨rfl, ht⟩; have HT := Lib.hid (QueTo.after HB5.out ht); clear ht)
 go_end0
 exact ⟨rfl, HT.out⟩
theorem wone_32 {w : World} {tp sp qp lb fr : Nat} {A : Wy} {F : Nat → Prop} {S : Vz.Sr} {q : List UInt8} {over : Bool} (h : Wys w tp sp qp A F S) (hq : QueAt w qp lb fr A.most q over) : Calls Tryz.prog 101 #[.pointer (some ⟨tp, 0, none⟩), .int .u8 32] w fun e w' => e = .returned (.bool false) ∧ QueTo w w' qp lb A.most (pushQ A.most q [54, 48, 13]) (pushO A.most q [54, 48, 13] over) := by
 have HQ := Lib.hid (fun W (hb : Below w.heap.size w W) => hq.below hb)
 have HL := Lib.hid hq.lt
 have HA := Lib.hid (fun W (hb : Below w.heap.size w W) => h.below hb)
 obtain ⟨t0, t1, t2, t3, _⟩ := h.cells
 have HCU := Lib.hid (scr_cursor sp F S w h.scr)
 clear h hq
 go_enter Tryz.func101, Tryz.ntmps101
 go_upto_block 0 with (go_at_call 22; refine HCU.out.mono ?_; rintro e w1 ⟨rfl, hb1⟩; have HB1 := Lib.hid (hb1.alloc hb1.size (.cells #[.int .i64 S.pl.at_.row, .int .i64 S.pl.at_.col] 49)); have HX := Lib.hid (heap_alloc_new w1 (.cells #[.int .i64 S.pl.at_.row, .int .i64 S.pl.at_.col] 49)); obtain ⟨y0, y1, y2, y3, y4, y5, y6, y7, _⟩ := (HA.out _ HB1.out).cells; clear hb1)
 refine wp_block ?_
 refine wp_seq_k fun K hK => ?_
 clear hK
 refine wp_block ?_
 refine wp_seq_k fun K hK => ?_
 clear hK
 refine wp_block ?_
 refine wp_seq_k fun K hK => ?_
 refine sw_sound _ _ _ { tmps := #[.pointer (some ⟨tp, 0, none⟩), .int .u8 32, undef, undef, .bool false, .pointer (some ⟨w1.heap.size, 0, none⟩), .bool S.pl.pend, .bool A.pr, undef, .tuple #[.agg #[.int .i64 S.pl.at_.row, .int .i64 S.pl.at_.col], .bool S.pl.pend], .pointer (some ⟨tp, 0, none⟩), .pointer (some ⟨tp, 0, none⟩), .pointer (some ⟨tp, 0, none⟩), .pointer (some ⟨sp, 0, none⟩), .tuple #[.agg #[.int .i64 S.pl.at_.row, .int .i64 S.pl.at_.col], .bool S.pl.pend], .agg #[.int .i64 S.pl.at_.row, .int .i64 S.pl.at_.col], .bool S.pl.pend, .pointer (some ⟨tp, 0, none⟩), .pointer (some ⟨tp, 0, none⟩), .pointer (some ⟨tp, 2, none⟩), .pointer (some ⟨tp, 3, none⟩), .bool A.pr, .int .u8 32, .bool false, .bool false, .bool false, .bool false, .bool false, .bool false, .bool false, .bool false, .bool false, .bool false, .bool false, .bool false, .bool false, .bool false, .bool false, .bool false, .bool false, .bool false, .bool false, .bool false, .bool false, .bool false, .bool false, .bool false, .bool false, .bool false, .bool false, .bool false, .bool false, .bool false, .bool false, .bool false, .bool true, .bool true, undef, undef, undef, undef, undef, undef, undef, undef, undef, undef, undef, undef, undef, undef, undef, undef, undef, undef, undef, undef, undef, undef, undef, undef, undef, undef, undef, undef, undef, undef, undef, undef, undef, undef, undef, undef, undef, undef, undef, undef, undef, undef, undef, undef, undef, undef, undef, undef, undef, undef, undef, undef, undef, undef, undef, undef, undef, undef, undef, undef, undef, undef, undef, undef, undef, undef, undef, undef, undef, undef, undef, undef, undef, undef, undef, undef, undef, undef, undef, undef, undef, undef, undef, undef, undef, undef, undef, undef, undef, undef, undef, undef, undef, undef, undef, undef, undef, undef, undef, undef, undef, undef, undef, undef, undef, undef, undef, undef, undef, undef, undef, undef, undef, undef, undef, undef, undef, undef, undef], defers := [] } .normal (by kernel_rfl) ?_
 refine hK _ _ ?_
 clear hK
 have HB2 := Lib.hid (HB1.out.alloc HB1.out.size (.cells #[.string ⟨[54, 48, 13].toArray⟩] 9))
 have HS2 := Lib.hid (heap_alloc_new (w1.alloc (.cells #[.int .i64 S.pl.at_.row, .int .i64 S.pl.at_.col] 49)) (.cells #[.string ⟨[54, 48, 13].toArray⟩] 9))
 rw [World.size_alloc] at HS2
 have HZ := Lib.hid HB1.out.size
 rw [World.size_alloc] at HZ
 go_wp2_with (go_at_call 86; refine (que_push qp lb fr A.most q over (w1.heap.size + 1) [54, 48, 13] _ (HQ.out _ HB2.out) HS2.out (by have := HL.out; have := HZ.out; omega) (by have := HL.out; have := HZ.out; omega) (by decide)).mono ?_; rintro e w4 ⟨rfl, ht⟩; have HT := Lib.hid (QueTo.after HB2.out ht); clear ht)
 go_ret
 exact ⟨rfl, HT.out⟩
theorem wone_52 {w : World} {tp sp qp lb fr : Nat} {A : Wy} {F : Nat → Prop} {S : Vz.Sr} {q : List UInt8} {over : Bool} (h : Wys w tp sp qp A F S) (hq : QueAt w qp lb fr A.most q over) : Calls Tryz.prog 101 #[.pointer (some ⟨tp, 0, none⟩), .int .u8 52] w fun e w' => e = .returned (.bool false) ∧ QueTo w w' qp lb A.most (pushQ A.most q (sendF ofW S.D S.pl.at_.row.toNat 0 S.pl.at_.col.toNat (S.pl.at_.row.toNat - S.pl.at_.row.toNat) ++ [13])) (pushO A.most q (sendF ofW S.D S.pl.at_.row.toNat 0 S.pl.at_.col.toNat (S.pl.at_.row.toNat - S.pl.at_.row.toNat) ++ [13]) over) := by
 obtain ⟨m1, m2, m3, m4⟩ := h.scr.here.2
 obtain ⟨q1, q2, q3, q4⟩ := h.scr.here.1
 obtain ⟨i, hi⟩ : ∃ i : Nat, S.pl.at_.row = (i : Int) := ⟨S.pl.at_.row.toNat, by omega⟩
 obtain ⟨j, hj⟩ : ∃ j : Nat, S.pl.at_.col = (j : Int) := ⟨S.pl.at_.col.toNat, by omega⟩
 have HSE : Hid (∀ W, Below w.heap.size w W → Calls Tryz.prog 140 #[.pointer (some ⟨tp, 0, none⟩), .agg #[.int .i64 S.pl.at_.row, .int .i64 0], .agg #[.int .i64 S.pl.at_.row, .int .i64 S.pl.at_.col]] W fun e w' => e = .returned (.tuple #[]) ∧ QueTo W w' qp lb A.most (pushQ A.most q (sendF ofW S.D S.pl.at_.row.toNat 0 S.pl.at_.col.toNat (S.pl.at_.row.toNat - S.pl.at_.row.toNat) ++ [13])) (pushO A.most q (sendF ofW S.D S.pl.at_.row.toNat 0 S.pl.at_.col.toNat (S.pl.at_.row.toNat - S.pl.at_.row.toNat) ++ [13]) over)) := fun W hb => by
  have := wys_send (h.below hb) (hq.below hb) i 0 i j (by omega) (by omega) (by omega) (by omega)
  rw [hi, hj]
  simp only [Int.toNat_natCast]
  exact this
 obtain ⟨L, hL⟩ : ∃ L, L = (sendF ofW S.D S.pl.at_.row.toNat 0 S.pl.at_.col.toNat (S.pl.at_.row.toNat - S.pl.at_.row.toNat) ++ [13]) := ⟨_, rfl⟩
 rw [← hL] at HSE ⊢
 clear hL hi hj
 have HA := Lib.hid (fun W (hb : Below w.heap.size w W) => h.below hb)
 obtain ⟨t0, t1, t2, t3, _⟩ := h.cells
 have HCU := Lib.hid (scr_cursor sp F S w h.scr)
 clear h hq
 go_enter Tryz.func101, Tryz.ntmps101
 go_upto_block 0 with (go_at_call 22; refine HCU.out.mono ?_; rintro e w1 ⟨rfl, hb1⟩; have HB1 := Lib.hid (hb1.alloc hb1.size (.cells #[.int .i64 S.pl.at_.row, .int .i64 S.pl.at_.col] 49)); have HX := Lib.hid (heap_alloc_new w1 (.cells #[.int .i64 S.pl.at_.row, .int .i64 S.pl.at_.col] 49)); obtain ⟨y0, y1, y2, y3, y4, y5, y6, y7, _⟩ := (HA.out _ HB1.out).cells; obtain ⟨p0, p1, _⟩ := row2 HX.out; clear hb1)
 refine wp_block ?_
 refine wp_seq_k fun K hK => ?_
 clear hK
 refine wp_block ?_
 refine wp_seq_k fun K hK => ?_
 refine sw_sound _ _ _ { tmps := #[.pointer (some ⟨tp, 0, none⟩), .int .u8 52, undef, undef, .bool false, .pointer (some ⟨w1.heap.size, 0, none⟩), .bool S.pl.pend, .bool A.pr, undef, .tuple #[.agg #[.int .i64 S.pl.at_.row, .int .i64 S.pl.at_.col], .bool S.pl.pend], .pointer (some ⟨tp, 0, none⟩), .pointer (some ⟨tp, 0, none⟩), .pointer (some ⟨tp, 0, none⟩), .pointer (some ⟨sp, 0, none⟩), .tuple #[.agg #[.int .i64 S.pl.at_.row, .int .i64 S.pl.at_.col], .bool S.pl.pend], .agg #[.int .i64 S.pl.at_.row, .int .i64 S.pl.at_.col], .bool S.pl.pend, .pointer (some ⟨tp, 0, none⟩), .pointer (some ⟨tp, 0, none⟩), .pointer (some ⟨tp, 2, none⟩), .pointer (some ⟨tp, 3, none⟩), .bool A.pr, .int .u8 52, .bool false, .bool false, .bool false, .bool false, .bool false, .bool false, .bool false, .bool false, .bool false, .bool false, .bool false, .bool false, .bool false, .bool false, .bool false, .bool false, .bool false, .bool false, .bool false, .bool false, .bool false, .bool false, .bool false, .bool false, .bool false, .bool false, .bool false, .bool false, .bool false, .bool false, .bool false, .bool false, .bool false, .bool false, .bool true, .bool true, undef, undef, undef, undef, undef, undef, undef, undef, undef, undef, undef, undef, undef, undef, undef, undef, undef, undef, undef, undef, undef, undef, undef, undef, undef, undef, undef, undef, undef, undef, undef, undef, undef, undef, undef, undef, undef, undef, undef, undef, undef, undef, undef, undef, undef, undef, undef, undef, undef, undef, undef, undef, undef, undef, undef, undef, undef, undef, undef, undef, undef, undef, undef, undef, undef, undef, undef, undef, undef, undef, undef, undef, undef, undef, undef, undef, undef, undef, undef, undef, undef, undef, undef, undef, undef, undef, undef, undef, undef, undef, undef, undef, undef, undef, undef, undef, undef, undef, undef, undef, undef, undef, undef, undef, undef, undef, undef, undef, undef, undef, undef, undef, undef, undef, undef, undef, undef], defers := [] } .normal (by kernel_rfl) ?_
 refine hK _ _ ?_
 clear hK
 go_wp2_with (go_at_call 140; refine (HSE.out _ HB1.out).mono ?_; rintro e w4 ⟨rfl, ht⟩; have HT := Lib.hid (QueTo.after HB1.out ht); clear ht)
 go_ret
 exact ⟨rfl, HT.out⟩
theorem wone_53 {w : World} {tp sp qp lb fr : Nat} {A : Wy} {F : Nat → Prop} {S : Vz.Sr} {q : List UInt8} {over : Bool} (h : Wys w tp sp qp A F S) (hq : QueAt w qp lb fr A.most q over) : Calls Tryz.prog 101 #[.pointer (some ⟨tp, 0, none⟩), .int .u8 53] w fun e w' => e = .returned (.bool false) ∧ QueTo w w' qp lb A.most (pushQ A.most q (sendF ofW S.D 0 0 S.pl.at_.col.toNat (S.pl.at_.row.toNat - 0) ++ [13])) (pushO A.most q (sendF ofW S.D 0 0 S.pl.at_.col.toNat (S.pl.at_.row.toNat - 0) ++ [13]) over) := by
 obtain ⟨m1, m2, m3, m4⟩ := h.scr.here.2
 obtain ⟨q1, q2, q3, q4⟩ := h.scr.here.1
 obtain ⟨i, hi⟩ : ∃ i : Nat, S.pl.at_.row = (i : Int) := ⟨S.pl.at_.row.toNat, by omega⟩
 obtain ⟨j, hj⟩ : ∃ j : Nat, S.pl.at_.col = (j : Int) := ⟨S.pl.at_.col.toNat, by omega⟩
 have HSE : Hid (∀ W, Below w.heap.size w W → Calls Tryz.prog 140 #[.pointer (some ⟨tp, 0, none⟩), .agg #[.int .i64 0, .int .i64 0], .agg #[.int .i64 S.pl.at_.row, .int .i64 S.pl.at_.col]] W fun e w' => e = .returned (.tuple #[]) ∧ QueTo W w' qp lb A.most (pushQ A.most q (sendF ofW S.D 0 0 S.pl.at_.col.toNat (S.pl.at_.row.toNat - 0) ++ [13])) (pushO A.most q (sendF ofW S.D 0 0 S.pl.at_.col.toNat (S.pl.at_.row.toNat - 0) ++ [13]) over)) := fun W hb => by
  have := wys_send (h.below hb) (hq.below hb) 0 0 i j (by omega) (by omega) (by omega) (by omega)
  rw [hi, hj]
  simp only [Int.toNat_natCast]
  exact this
 obtain ⟨L, hL⟩ : ∃ L, L = (sendF ofW S.D 0 0 S.pl.at_.col.toNat (S.pl.at_.row.toNat - 0) ++ [13]) := ⟨_, rfl⟩
 rw [← hL] at HSE ⊢
 clear hL hi hj
 have HA := Lib.hid (fun W (hb : Below w.heap.size w W) => h.below hb)
 obtain ⟨t0, t1, t2, t3, _⟩ := h.cells
 have HCU := Lib.hid (scr_cursor sp F S w h.scr)
 clear h hq
 go_enter Tryz.func101, Tryz.ntmps101
 go_upto_block 0 with (go_at_call 22; refine HCU.out.mono ?_; rintro e w1 ⟨rfl, hb1⟩; have HB1 := Lib.hid (hb1.alloc hb1.size (.cells #[.int .i64 S.pl.at_.row, .int .i64 S.pl.at_.col] 49)); have HX := Lib.hid (heap_alloc_new w1 (.cells #[.int .i64 S.pl.at_.row, .int .i64 S.pl.at_.col] 49)); obtain ⟨y0, y1, y2, y3, y4, y5, y6, y7, _⟩ := (HA.out _ HB1.out).cells; obtain ⟨p0, p1, _⟩ := row2 HX.out; clear hb1)
 refine wp_block ?_
 refine wp_seq_k fun K hK => ?_
 refine sw_sound _ _ _ { tmps := #[.pointer (some ⟨tp, 0, none⟩), .int .u8 53, undef, undef, .bool false, .pointer (some ⟨w1.heap.size, 0, none⟩), .bool S.pl.pend, .bool A.pr, undef, .tuple #[.agg #[.int .i64 S.pl.at_.row, .int .i64 S.pl.at_.col], .bool S.pl.pend], .pointer (some ⟨tp, 0, none⟩), .pointer (some ⟨tp, 0, none⟩), .pointer (some ⟨tp, 0, none⟩), .pointer (some ⟨sp, 0, none⟩), .tuple #[.agg #[.int .i64 S.pl.at_.row, .int .i64 S.pl.at_.col], .bool S.pl.pend], .agg #[.int .i64 S.pl.at_.row, .int .i64 S.pl.at_.col], .bool S.pl.pend, .pointer (some ⟨tp, 0, none⟩), .pointer (some ⟨tp, 0, none⟩), .pointer (some ⟨tp, 2, none⟩), .pointer (some ⟨tp, 3, none⟩), .bool A.pr, .int .u8 53, .bool false, .bool false, .bool false, .bool false, .bool false, .bool false, .bool false, .bool false, .bool false, .bool false, .bool false, .bool false, .bool false, .bool false, .bool false, .bool false, .bool false, .bool false, .bool false, .bool false, .bool false, .bool false, .bool false, .bool false, .bool false, .bool false, .bool false, .bool false, .bool false, .bool false, .bool false, .bool false, .bool false, .bool false, .bool false, .bool false, .bool true, .bool true, undef, undef, undef, undef, undef, undef, undef, undef, undef, undef, undef, undef, undef, undef, undef, undef, undef, undef, undef, undef, undef, undef, undef, undef, undef, undef, undef, undef, undef, undef, undef, undef, undef, undef, undef, undef, undef, undef, undef, undef, undef, undef, undef, undef, undef, undef, undef, undef, undef, undef, undef, undef, undef, undef, undef, undef, undef, undef, undef, undef, undef, undef, undef, undef, undef, undef, undef, undef, undef, undef, undef, undef, undef, undef, undef, undef, undef, undef, undef, undef, undef, undef, undef, undef, undef, undef, undef, undef, undef, undef, undef, undef, undef, undef, undef, undef, undef, undef, undef, undef, undef, undef, undef, undef, undef, undef, undef, undef, undef, undef, undef, undef, undef, undef, undef], defers := [] } .normal (by kernel_rfl) ?_
 refine hK _ _ ?_
 clear hK
 go_wp2_with (go_at_call 140; refine (HSE.out _ HB1.out).mono ?_; rintro e w4 ⟨rfl, ht⟩; have HT := Lib.hid (QueTo.after HB1.out ht); clear ht)
 go_ret
 exact ⟨rfl, HT.out⟩
end
end Go.Proofs.YteoeooijpjehpaaGreatDoor
