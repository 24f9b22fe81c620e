import Derived.Test.YteoeooijpjehpaaGreatDoorIG
import Derived.Test.YteoeooijpjehpaaGreatDoorHS
import Derived.Maps.AppendAt

set_option maxRecDepth 100000
set_option maxHeartbeats 16000000
namespace Go.Proofs.YteoeooijpjehpaaGreatDoor
open Go.RowKit
set_option linter.unusedSimpArgs false
set_option linter.unusedVariables false
/- Walks: field.Send. -/
section
attribute [local go_sem] alloc_drewN setCell_drewN World.cell?_alloc_some frozen_alloc_some size_f0 size_f1
theorem own_keptB {W W' : World} {base : Nat} {e : TypeId} {size n : Nat} {V : Value} {xs : List Value} (h : W.ownsRow base e size V n xs) (hb : Below W.heap.size W W') : W'.ownsRow base e size V n xs := by
 obtain ⟨hl, h⟩ := h
 refine ⟨hl, ?_⟩
 rcases h with h | ⟨g, cap, cur, rfl, hb', hg, rest⟩
 · exact .inl h
 · exact .inr ⟨g, cap, cur, rfl, hb', (hb.block g (block_lt hg)).trans hg, rest⟩
theorem own_val {W : World} {base : Nat} {e : TypeId} {size n : Nat} {V : Value} {xs : List Value} (h : W.ownsRow base e size V n xs) : ∃ a c, V = .slice a n c := by
 rcases h.2 with ⟨rfl, rfl⟩ | ⟨g, cap, cur, rfl, _⟩
 · exact ⟨_, _, rfl⟩
 · exact ⟨_, _, rfl⟩
theorem bytesV_end (l : List UInt8) (b : UInt8) : bytesV l ++ [.int .u8 b.toNat] = bytesV (l ++ [b]) := by simp [bytesV]
theorem sendR_len (ofG : Int → UInt8) (x : Nat → Vz.Cl) : ∀ (n c : Nat) (sent : Bool), (sendR ofG x c sent n).length ≤ 2 * n
 | 0, c, sent => Nat.le_refl _
 | n + 1, c, sent => by
   unfold sendR
   split
   · have := sendR_len ofG x n (c + 1) sent
     omega
   · have := sendR_len ofG x n (c + 1) true
     rw [List.length_append, List.length_cons]
     split
     · simp
       omega
     · simp
       omega
theorem sendF_len (ofG : Int → UInt8) (D : Vz.Gd) (b : Nat) (hb : b < D.C) (hC : D.C ≤ 255) : ∀ (n r a : Nat), (sendF ofG D r a b n).length ≤ (n + 1) * 511
 | 0, r, a => by
   have := sendR_len ofG (D.X r) (b + 1 - a) a false
   show (sendR ofG (D.X r) a false (b + 1 - a)).length ≤ _
   omega
 | n + 1, r, a => by
   have := sendR_len ofG (D.X r) (D.C - a) a false
   have h2 := sendF_len ofG D b hb hC n (r + 1) 0
   show (sendR ofG (D.X r) a false (D.C - a) ++ 31 :: sendF ofG D (r + 1) 0 b n).length ≤ _
   rw [List.length_append, List.length_cons]
   omega
theorem sendR_open (ofG : Int → UInt8) (x : Nat → Vz.Cl) (c : Nat) (sent : Bool) (n : Nat) (h : (x c).gd = false) : sendR ofG x c sent (n + 1) = (if sent = true ∧ (x (c - 1)).gd = true then [28] else []) ++ ofG (x c).g :: sendR ofG x (c + 1) true n := if_neg (by rw [h]; decide)
theorem sendR_shut (ofG : Int → UInt8) (x : Nat → Vz.Cl) (c : Nat) (sent : Bool) (n : Nat) (h : (x c).gd = true) : sendR ofG x c sent (n + 1) = sendR ofG x (c + 1) sent n := if_pos h
def rF (ofG : Int → UInt8) (D : Vz.Gd) (r a q b k : Nat) : List UInt8 := if k ≤ q then sendF ofG D k (if k = r then a else 0) b (q - k) else []
def firstC (r a k : Nat) : Nat := if k = r then a else 0
def lastC (D : Vz.Gd) (q b k : Nat) : Nat := if k = q then b else D.C - 1
def tailF (ofG : Int → UInt8) (D : Vz.Gd) (r a q b k : Nat) : List UInt8 := if k < q then 31 :: rF ofG D r a q b (k + 1) else []
theorem rF_row (ofG : Int → UInt8) (D : Vz.Gd) (r a q b k : Nat) (hk : r ≤ k) (hq : k ≤ q) (hC : 1 ≤ D.C) : rF ofG D r a q b k = sendR ofG (D.X k) (firstC r a k) false (lastC D q b k + 1 - firstC r a k) ++ tailF ofG D r a q b k := by
 have h0 : rF ofG D r a q b k = sendF ofG D k (firstC r a k) b (q - k) := if_pos hq
 rw [h0]
 by_cases h : k = q
 · have ht : tailF ofG D r a q b k = [] := if_neg (by omega)
   have hl : lastC D q b k = b := if_pos h
   rw [ht, hl, List.append_nil, show q - k = 0 by omega]
   rfl
 · obtain ⟨n, hn⟩ : ∃ n, q - k = n + 1 := ⟨q - k - 1, by omega⟩
   have ht : tailF ofG D r a q b k = 31 :: rF ofG D r a q b (k + 1) := if_pos (by omega)
   have hl : lastC D q b k = D.C - 1 := if_neg h
   have h1 : rF ofG D r a q b (k + 1) = sendF ofG D (k + 1) (firstC r a (k + 1)) b (q - (k + 1)) := if_pos (by omega)
   have h2 : firstC r a (k + 1) = 0 := if_neg (by omega)
   rw [ht, hl, h1, h2, hn, show q - (k + 1) = n by omega, show D.C - 1 + 1 - firstC r a k = D.C - firstC r a k by omega]
   rfl
theorem rF_end (ofG : Int → UInt8) (D : Vz.Gd) (r a q b : Nat) : rF ofG D r a q b (q + 1) = [] := by
 unfold rF
 rw [if_neg (by omega)]
theorem rF_start (ofG : Int → UInt8) (D : Vz.Gd) (r a q b : Nat) (h : r ≤ q) : rF ofG D r a q b r = sendF ofG D r a b (q - r) := by
 unfold rF
 rw [if_pos h, if_pos rfl]
theorem fsend_ok {B : Nat} {w : World} {OB : Nat} {D : Vz.Gd} {G K : Nat → Nat} (hR : RowsAt B w OB D G K) (hm : D.may) (ofG : Int → UInt8) (fn : Nat) (heg : ∀ (args : Array Value) (W : World), Sem.run Tryz.prog (callFunc fn args) W = .ok (.enter fn args) W)
 (hof : ∀ (g : Int) (W : World), Calls Tryz.prog fn #[.int .i32 g] W fun e w' => e = .returned (.int .u8 ((ofG g).toNat : Int)) ∧ Below W.heap.size W w')
 (r a q b : Nat) (hq : q < D.R) (ha : a < D.C) (hb : b < D.C) (hle : r < q ∨ (r = q ∧ a ≤ b)) :
 Calls Tryz.prog 181 #[.slice (some ⟨OB, 0, none⟩) D.R D.R, .agg #[.int .i64 (r : Int), .int .i64 (a : Int)], .agg #[.int .i64 (q : Int), .int .i64 (b : Int)], .func (.func fn) #[] #[]] w fun e w' => e = .returned (.tuple #[.string ⟨(sendF ofG D r a b (q - r)).toArray⟩, .int .i64 0]) ∧ Below w.heap.size w w' := by
 have hr : r < D.R := by omega
 have hrq : r ≤ q := by omega
 obtain ⟨n0, n1, nb⟩ := box2 (Below.refl ((w.alloc (.cells #[.int .i64 (r : Int), .int .i64 (a : Int)] 49)).alloc (.cells #[.int .i64 (q : Int), .int .i64 (b : Int)] 49)).heap.size ((w.alloc (.cells #[.int .i64 (r : Int), .int .i64 (a : Int)] 49)).alloc (.cells #[.int .i64 (q : Int), .int .i64 (b : Int)] 49)))
 have HB0 := Lib.hid nb
 have HN := Lib.hid (show _ ∧ _ from ⟨n0, n1⟩)
 have HC : Hid (∀ W, Below w.heap.size w W → RowsAt B W OB D G K) := fun W hb => hR.below hb
 have HCH := Lib.hid (fun W (hb : Below w.heap.size w W) => fcheck (hR.below hb) hm)
 have HT1 := Lib.hid (fun W (hb : Below w.heap.size w W) => fthere (hR.below hb) hm r a hr ha)
 have HT2 := Lib.hid (fun W (hb' : Below w.heap.size w W) => fthere (hR.below hb') hm q b hq hb)
 have HU1 := Lib.hid (fun W (hb : Below w.heap.size w W) => fnumber (hR.below hb) hm r a hr ha 0)
 have HU2 := Lib.hid (fun W (hb' : Below w.heap.size w W) => fnumber (hR.below hb') hm q b hq hb 0)
 have HOF := Lib.hid hof
 obtain ⟨m1, m2, m3, m4⟩ := hm
 have hnl : ¬ (q * D.C + b < r * D.C + a) := by
  rcases hle with h | ⟨rfl, h⟩
  · have : (r + 1) * D.C ≤ q * D.C := Nat.mul_le_mul_right _ h
    rw [Nat.succ_mul] at this
    omega
  · omega
 have hnf : ∀ W, Sem.run Tryz.prog (binOp BinOp.eql 155 (.func (.func fn) #[] #[]) .nilFunc) W = .ok (.bool false) W := fun W => rfl
 clear hR hof nb n0 n1
 generalize hN1 : r * D.C + a = N1 at *
 generalize hN2 : q * D.C + b = N2 at *
 obtain ⟨T, hT⟩ : ∃ T, T = sendF ofG D r a b (q - r) := ⟨_, rfl⟩
 rw [← hT]
 have HT := Lib.hid hT
 clear hT
 go_enter Tryz.func181, Tryz.ntmps181
 go_upto_region 5 with (first
  | (go_at_call 153; refine (HCH.out _ HB0.out).mono ?_; rintro e w1 ⟨rfl, rfl⟩))
 have HB0' : Hid (Below w.heap.size w ((w.alloc (.cells #[.int .i64 (r : Int), .int .i64 (a : Int)] 49)).alloc (.cells #[.int .i64 (q : Int), .int .i64 (b : Int)] 49)).drew) := HB0.out.drew
 refine wp_region_noPanic ?_
 refine wp_region_k (S := fun W' : World => Below w.heap.size w W' ∧ W'.heap[w.heap.size]? = some (.cells #[.int .i64 (r : Int), .int .i64 (a : Int)] 49 (0, 0)) ∧ W'.heap[w.heap.size + 1]? = some (.cells #[.int .i64 (q : Int), .int .i64 (b : Int)] 49 (0, 0))) 999 (by kernel_rfl) (⟨HB0'.out, HN.out⟩) (fun hHeld => ?_)
 refine kSK 0 hHeld ?_
 refine kHK (v := ?_) 1 hHeld ?y2 ?_
 case y2 => (intro W hSw; obtain ⟨p0, p1, _⟩ := row2 hSw.2.1; obtain ⟨q0, q1, _⟩ := row2 hSw.2.2; go_simp; try with_reducible rfl)
 try refine kNK ?_
 refine kOK 2 fun KQ hKQ => ?_
 go_simp
 go_at_call 192
 refine (HT1.out _ hHeld.1).mono ?_
 rintro e wx2 ⟨rfl, hbx⟩
 have HX2 := Lib.hid (Below.later hHeld.1 hbx hHeld.1.size)
 have HY2 := Lib.hid (show wx2.heap[w.heap.size]? = some (.cells #[.int .i64 (r : Int), .int .i64 (a : Int)] 49 (0, 0)) ∧ wx2.heap[w.heap.size + 1]? = some (.cells #[.int .i64 (q : Int), .int .i64 (b : Int)] 49 (0, 0)) from ⟨(hbx.block _ (block_lt hHeld.2.1)).trans hHeld.2.1, (hbx.block _ (block_lt hHeld.2.2)).trans hHeld.2.2⟩)
 clear hbx
 go_wp2_with fail
 refine hKQ.out _ _ (⟨HX2.out, HY2.out⟩) ?_
 clear hHeld hKQ KQ
 intro hHeld
 try refine kNK ?_
 refine kSK 3 hHeld ?_
 refine kSK 4 hHeld ?_
 refine kSK 5 hHeld ?_
 refine kHK (v := ?_) 6 hHeld ?y6 ?_
 case y6 => (intro W hSw; obtain ⟨p0, p1, _⟩ := row2 hSw.2.1; obtain ⟨q0, q1, _⟩ := row2 hSw.2.2; go_simp; try with_reducible rfl)
 try refine kNK ?_
 refine kOK 7 fun KQ hKQ => ?_
 go_simp
 go_at_call 192
 refine (HT2.out _ hHeld.1).mono ?_
 rintro e wx7 ⟨rfl, hbx⟩
 have HX7 := Lib.hid (Below.later hHeld.1 hbx hHeld.1.size)
 have HY7 := Lib.hid (show wx7.heap[w.heap.size]? = some (.cells #[.int .i64 (r : Int), .int .i64 (a : Int)] 49 (0, 0)) ∧ wx7.heap[w.heap.size + 1]? = some (.cells #[.int .i64 (q : Int), .int .i64 (b : Int)] 49 (0, 0)) from ⟨(hbx.block _ (block_lt hHeld.2.1)).trans hHeld.2.1, (hbx.block _ (block_lt hHeld.2.2)).trans hHeld.2.2⟩)
 clear hbx
 go_wp2_with fail
 refine hKQ.out _ _ (⟨HX7.out, HY7.out⟩) ?_
 clear hHeld hKQ KQ
 intro hHeld
 try refine kNK ?_
 refine kSK 8 hHeld ?_
 refine kSK 9 hHeld ?_
 refine kSK 10 hHeld ?_
 refine kSK 11 hHeld ?_
 refine kHK (v := ?_) 12 hHeld ?y11 ?_
 case y11 => (intro W hSw; obtain ⟨p0, p1, _⟩ := row2 hSw.2.1; obtain ⟨q0, q1, _⟩ := row2 hSw.2.2; go_simp; try with_reducible rfl)
 try refine kNK ?_
 refine kSK 14 hHeld ?_
 refine kHK (v := ?_) 15 hHeld ?y13 ?_
 case y13 => (intro W hSw; obtain ⟨p0, p1, _⟩ := row2 hSw.2.1; obtain ⟨q0, q1, _⟩ := row2 hSw.2.2; go_simp; try with_reducible rfl)
 try refine kNK ?_
 refine kOK 13 fun KQ hKQ => ?_
 go_simp
 go_at_call 154
 refine (HU2.out _ hHeld.1).mono ?_
 rintro e wx13 ⟨rfl, hbx⟩
 have HX13 := Lib.hid (Below.later hHeld.1 hbx hHeld.1.size)
 have HY13 := Lib.hid (show wx13.heap[w.heap.size]? = some (.cells #[.int .i64 (r : Int), .int .i64 (a : Int)] 49 (0, 0)) ∧ wx13.heap[w.heap.size + 1]? = some (.cells #[.int .i64 (q : Int), .int .i64 (b : Int)] 49 (0, 0)) from ⟨(hbx.block _ (block_lt hHeld.2.1)).trans hHeld.2.1, (hbx.block _ (block_lt hHeld.2.2)).trans hHeld.2.2⟩)
 clear hbx
 go_wp2_with fail
 refine hKQ.out _ _ (⟨HX13.out, HY13.out⟩) ?_
 clear hHeld hKQ KQ
 intro hHeld
 try refine kNK ?_
 refine kOK 16 fun KQ hKQ => ?_
 go_simp
 go_at_call 154
 refine (HU1.out _ hHeld.1).mono ?_
 rintro e wx16 ⟨rfl, hbx⟩
 have HX16 := Lib.hid (Below.later hHeld.1 hbx hHeld.1.size)
 have HY16 := Lib.hid (show wx16.heap[w.heap.size]? = some (.cells #[.int .i64 (r : Int), .int .i64 (a : Int)] 49 (0, 0)) ∧ wx16.heap[w.heap.size + 1]? = some (.cells #[.int .i64 (q : Int), .int .i64 (b : Int)] 49 (0, 0)) from ⟨(hbx.block _ (block_lt hHeld.2.1)).trans hHeld.2.1, (hbx.block _ (block_lt hHeld.2.2)).trans hHeld.2.2⟩)
 clear hbx
 go_wp2_with fail
 refine hKQ.out _ _ (⟨HX16.out, HY16.out⟩) ?_
 clear hHeld hKQ KQ
 intro hHeld
 try refine kNK ?_
 refine kSK 17 hHeld ?_
 refine kSK 18 hHeld ?_
 refine kSK 19 hHeld ?_
 try refine kNK ?_
 refine wpAnyK_done (by kernel_rfl) ?_ _
 refine NoPanic.normal ?_
 have HX4 := Lib.hid HX16.out
 have HA : Hid (∀ W, Below wx16.heap.size wx16 W → (W.heap[w.heap.size]? = some (.cells #[.int .i64 (r : Int), .int .i64 (a : Int)] 49 (0, 0)) ∧ W.heap[w.heap.size + 1]? = some (.cells #[.int .i64 (q : Int), .int .i64 (b : Int)] 49 (0, 0))) ∧ RowsAt B W OB D G K ∧ Below w.heap.size w W) := fun W hb =>
  ⟨⟨(hb.block _ (block_lt HY16.out.1)).trans HY16.out.1, (hb.block _ (block_lt HY16.out.2)).trans HY16.out.2⟩, HC.out _ (Below.later HX4.out hb HX4.out.size), Below.later HX4.out hb HX4.out.size⟩
 obtain ⟨p0, p1, _⟩ := row2 HY16.out.1
 obtain ⟨i0, hi, hz0, hz1, hz2⟩ := info_three infoByte
 have HL : Hid (∀ l rest : List UInt8, l ++ rest = T → l.length ≤ 200000) := fun l rest h => by
  rw [HT.out] at h
  have h1 := sendF_len ofG D b hb m4 (q - r) r a
  have h2 : l.length ≤ (sendF ofG D r a b (q - r)).length := by rw [← h, List.length_append]; omega
  have h3 : (q - r + 1) * 511 ≤ 255 * 511 := Nat.mul_le_mul_right _ (by omega)
  omega
 have HSTART := Lib.hid (show rF ofG D r a q b r = T from (rF_start ofG D r a q b hrq).trans HT.out.symm)
 have HEND := Lib.hid (rF_end ofG D r a q b)
 have HROW := Lib.hid (fun k h1 h2 => rF_row ofG D r a q b k h1 h2 m3)
 clear HCH HT1 HT2 HU1 HU2 HB0 HB0' HN HC HX16 HX2 HX7 HX13 HY2 HY7 HY13 HY16
 go_wp2_with fail
 go_loopw [10, 11] (fun v i wr => ∃ (k : Nat) (l : List UInt8), i = .int .i64 (k : Int) ∧ r ≤ k ∧ k ≤ q + 1 ∧ l ++ rF ofG D r a q b k = T ∧ wr.ownsRow wx16.heap.size 5 1 v l.length (bytesV l) ∧ Below wx16.heap.size wx16 wr) (fun _ i _ => q + 1 - (intOf i).toNat)
 case atStart => exact ⟨r, [], rfl, Nat.le_refl _, by omega, HSTART.out, World.ownsRow_nil _ _ _ _, Below.refl _ _⟩
 case round =>
  obtain ⟨k, l, rfl, hk1, hk2, heq, hown, hB⟩ := hrel
  obtain ⟨a0, c0, rfl⟩ := own_val hown
  obtain ⟨⟨hx0, hx1⟩, hRW, hBW⟩ := HA.out _ hB
  obtain ⟨p0, p1, _⟩ := row2 hx0
  obtain ⟨q0, q1, _⟩ := row2 hx1
  have HB := Lib.hid hB
  have HO := Lib.hid hown
  have HBW := Lib.hid hBW
  by_cases hle2 : k ≤ q
  · have hkz : (k : Int) ≤ (q : Int) := by omega
    have hkR : k < D.R := by omega
    have hkRz : (k : Int) < (D.R : Int) := by omega
    have g0 := hRW.gcell hkR
    have hwc : IntKind.i64.wrap ((D.C : Int) - 1) = ((D.C - 1 : Nat) : Int) := by rw [wrap_in (by omega) (by omega)]; omega
    by_cases hkr : k = r
    · have hkb : ((k : Int) == (r : Int)) = true := by simp [hkr]
      by_cases hkq : k = q
      · have hkqb : ((k : Int) == (q : Int)) = true := by simp [hkq]
        rw [HROW.out k hk1 hle2, show firstC r a k = a from if_pos hkr, show lastC D q b k = b from if_pos hkq] at heq
        have HEQ := Lib.hid heq
        have HFL := Lib.hid (show a ≤ b + 1 by omega)
        have HTL := Lib.hid (show tailF ofG D r a q b k = [] from if_neg (by omega))
        have HRE := Lib.hid (show rF ofG D r a q b (k + 1) = [] from if_neg (by omega))
        have hkqz : ¬ (k : Int) < (q : Int) := by omega
        clear heq hown hB hx0 hx1 hRW hBW hkr hkq
        go_upto_region 11 with fail
        have HBD : Hid (Below wx16.heap.size wx16 wr.drew) := HB.out.drew
        have HOD : Hid (wr.drew.ownsRow wx16.heap.size 5 1 (.slice a0 l.length c0) l.length (bytesV l)) := HO.out
        clear HO HB HBW p0 p1 q0 q1 g0
        refine wp_region_noPanic ?_
        refine wp_region_k (S := fun W' : World => Below wx16.heap.size wx16 W') 999 (by kernel_rfl) (HBD.out) (fun hHeld => ?_)
        refine kSK 0 hHeld ?_
        refine kSK 1 hHeld ?_
        refine kSK 2 hHeld ?_
        refine kHK (v := ?_) 3 hHeld ?y4 ?_
        case y4 => (intro W hSw; have g0 := (HA.out _ hSw).2.1.gcell hkR; go_simp; try with_reducible rfl)
        refine kSK 4 hHeld ?_
        try refine kNK ?_
        refine kSK 5 hHeld ?_
        refine kSK 6 hHeld ?_
        refine kSK 7 hHeld ?_
        try refine kNK ?_
        refine wpAnyK_done (by kernel_rfl) ?_ _
        refine NoPanic.normal ?_
        obtain ⟨⟨hx0, hx1⟩, _, _⟩ := HA.out _ HBD.out
        obtain ⟨p0, p1, _⟩ := row2 hx0
        obtain ⟨q0, q1, _⟩ := row2 hx1
        clear hx0 hx1
        go_wp2_with fail
        go_loopw [10, 14, 15] (fun v s cc wr => ∃ (c : Nat) (sent : Bool) (l' : List UInt8), s = .bool sent ∧ cc = .int .i64 (c : Int) ∧ c ≤ b + 1 ∧ (sent = true → 1 ≤ c) ∧ l' ++ (sendR ofG (D.X k) c sent (b + 1 - c) ++ tailF ofG D r a q b k) = T ∧ wr.ownsRow wx16.heap.size 5 1 v l'.length (bytesV l') ∧ Below wx16.heap.size wx16 wr) (fun _ _ cc _ => b + 1 - (intOf cc).toNat)
        case atStart => exact ⟨a, false, l, rfl, rfl, HFL.out, fun h => (by cases h), HEQ.out, HOD.out, HBD.out⟩
        case round =>
         clear HEQ HOD HBD HFL p0 p1 q0 q1
         obtain ⟨c, sent, l', rfl, rfl, hc, hs, heq, hown, hB⟩ := hrel
         obtain ⟨a0, c0, rfl⟩ := own_val hown
         obtain ⟨⟨hx0, hx1⟩, hRW, hBW⟩ := HA.out _ hB
         obtain ⟨p0, p1, _⟩ := row2 hx0
         obtain ⟨q0, q1, _⟩ := row2 hx1
         have g0 := hRW.gcell hkR
         have hll := HL.out _ _ heq
         have HB := Lib.hid hB
         have HO := Lib.hid hown
         by_cases hcl : c ≤ b
         · have hcz : (c : Int) ≤ (b : Int) := by omega
           have hcC : c < D.C := by have := hb; omega
           have hcCz : (c : Int) < (D.C : Int) := by omega
           have hwm : IntKind.i64.wrap ((c : Int) + 1) = ((c + 1 : Nat) : Int) := by rw [wrap_in (by omega) (by omega)]; rfl
           obtain ⟨xg, xd⟩ := hRW.xcell hkR hcC
           obtain ⟨n, hn⟩ : ∃ n, b + 1 - c = n + 1 := ⟨b - c, by omega⟩
           have hn2 : b + 1 - (c + 1) = n := by omega
           rw [hn] at heq
           have HRW := Lib.hid hRW
           cases hgd : (D.X k c).gd
           · rw [hgd] at xd
             rw [sendR_open ofG (D.X k) c sent n hgd] at heq
             by_cases hst : sent = true
             · have h1 := hs hst
               subst hst
               obtain ⟨_, xm⟩ := hRW.xcell (i := k) (j := c - 1) hkR (by omega)
               have hw1 : IntKind.i64.wrap ((c : Int) - 1) = ((c - 1 : Nat) : Int) := by rw [wrap_in (by omega) (by omega)]; omega
               have hm1 : ((c - 1 : Nat) : Int) < (D.C : Int) := by omega
               cases hgm : (D.X k (c - 1)).gd
               · rw [hgm] at xm
                 rw [if_neg (by rw [hgm]; decide)] at heq
                 have HEQ2 := Lib.hid (show (l' ++ [ofG (D.X k c).g]) ++ (sendR ofG (D.X k) (c + 1) true (b + 1 - (c + 1)) ++ tailF ofG D r a q b k) = T by rw [hn2, ← heq]; simp)
                 clear heq hown hB hx0 hx1 hRW hBW hs hn hn2 hgd hgm
                 go_wp2_with fail
                 refine (HOF.out _ _).mono ?_
                 rintro e w7 ⟨rfl, hb7⟩
                 have HO7 := Lib.hid (own_keptB HO.out hb7)
                 have HB7 := Lib.hid (Below.later HB.out hb7 HB.out.size)
                 clear hb7
                 dsimp only
                 generalize hgo : ofG (D.X k c).g = og at *
                 go_wp2_with (at_builtin; refine wpList_append_own _ rfl _ _ 56 rfl wx16.heap.size 5 i0 (.int .u8 0) 1 1 Tryz.underlying56 hi hz0 hz1 hz2 rfl (by decide) _ l'.length _ rfl (own_keptB HO7.out (below1 w7 _)) ⟨w7.heap.size, 0, none⟩ 1 1 [.int .u8 (og.toNat : Int)] rfl rfl (cell_one_new _ _ _) (by simp [Value.oneCell']) (by unfold maxLen; omega) (by omega) (by rw [World.size_alloc]; have := HB7.out.size; omega) ?_; intro v' w8 hown' hgrow _; have HOw8 := Lib.hid hown'; have HBw8 := Lib.hid ((HB7.out.alloc HB7.out.size _).grown hgrow (by rw [World.size_alloc]; have := HB7.out.size; omega) (fun j e => (own_cells HO7.out e).1)); clear hown' hgrow)
                 refine ⟨⟨c + 1, true, l' ++ [og], rfl, rfl, by omega, fun _ => by omega, HEQ2.out, ?_, HBw8.out⟩, by simp [intOf]; omega⟩
                 rw [← bytesV_end, List.length_append]
                 exact HOw8.out
               · rw [hgm] at xm
                 rw [if_pos ⟨rfl, hgm⟩] at heq
                 have HEQ2 := Lib.hid (show ((l' ++ [28]) ++ [ofG (D.X k c).g]) ++ (sendR ofG (D.X k) (c + 1) true (b + 1 - (c + 1)) ++ tailF ofG D r a q b k) = T by rw [hn2, ← heq]; simp)
                 clear heq hown hB hx0 hx1 hBW hs hn hn2 hgd hgm hRW
                 go_wp2_with (at_builtin; refine wpList_append_own _ rfl _ _ 56 rfl wx16.heap.size 5 i0 (.int .u8 0) 1 1 Tryz.underlying56 hi hz0 hz1 hz2 rfl (by decide) _ l'.length _ rfl (own_keptB HO.out (below1 wr _)) ⟨wr.heap.size, 0, none⟩ 1 1 [.int .u8 28] rfl rfl (cell_one_new _ _ _) (by simp [Value.oneCell']) (by unfold maxLen; omega) (by omega) (by rw [World.size_alloc]; have := HB.out.size; omega) ?_; intro v' w5 hown' hgrow _; have HOw5 := Lib.hid hown'; have HBw5 := Lib.hid ((HB.out.alloc HB.out.size _).grown hgrow (by rw [World.size_alloc]; have := HB.out.size; omega) (fun j e => (own_cells HO.out e).1)); clear hown' hgrow; clear g0 xg xd xm; obtain ⟨_, hR5, _⟩ := HA.out _ HBw5.out; have g0 := hR5.gcell hkR; obtain ⟨xg, _⟩ := hR5.xcell hkR hcC; clear hR5)
                 have HO5 := Lib.hid (show w5.ownsRow wx16.heap.size 5 1 v' (l' ++ [28]).length (bytesV (l' ++ [28])) by rw [← bytesV_end, List.length_append]; exact HOw5.out)
                 obtain ⟨a5, c5, rfl⟩ := own_val HO5.out
                 have hl5 : (l' ++ [28]).length ≤ 200001 := by rw [List.length_append]; simp; omega
                 generalize l' ++ [28] = l5 at *
                 clear HOw5
                 refine (HOF.out _ _).mono ?_
                 rintro e w7 ⟨rfl, hb7⟩
                 have HO7 := Lib.hid (own_keptB HO5.out hb7)
                 have HB7 := Lib.hid (Below.later HBw5.out hb7 HBw5.out.size)
                 clear hb7
                 dsimp only
                 generalize hgo : ofG (D.X k c).g = og at *
                 go_wp2_with (at_builtin; refine wpList_append_own _ rfl _ _ 56 rfl wx16.heap.size 5 i0 (.int .u8 0) 1 1 Tryz.underlying56 hi hz0 hz1 hz2 rfl (by decide) _ l5.length _ rfl (own_keptB HO7.out (below1 w7 _)) ⟨w7.heap.size, 0, none⟩ 1 1 [.int .u8 (og.toNat : Int)] rfl rfl (cell_one_new _ _ _) (by simp [Value.oneCell']) (by unfold maxLen; omega) (by omega) (by rw [World.size_alloc]; have := HB7.out.size; omega) ?_; intro v' w8 hown' hgrow _; have HOw8 := Lib.hid hown'; have HBw8 := Lib.hid ((HB7.out.alloc HB7.out.size _).grown hgrow (by rw [World.size_alloc]; have := HB7.out.size; omega) (fun j e => (own_cells HO7.out e).1)); clear hown' hgrow)
                 refine ⟨⟨c + 1, true, l5 ++ [og], rfl, rfl, by omega, fun _ => by omega, HEQ2.out, ?_, HBw8.out⟩, by simp [intOf]; omega⟩
                 rw [← bytesV_end, List.length_append]
                 exact HOw8.out
             · have hst2 : sent = false := by cases sent <;> simp_all
               subst hst2
               rw [if_neg (by simp)] at heq
               have HEQ2 := Lib.hid (show (l' ++ [ofG (D.X k c).g]) ++ (sendR ofG (D.X k) (c + 1) true (b + 1 - (c + 1)) ++ tailF ofG D r a q b k) = T by rw [hn2, ← heq]; simp)
               clear heq hown hB hx0 hx1 hRW hBW hs hn hn2 hgd hst
               go_wp2_with fail
               refine (HOF.out _ _).mono ?_
               rintro e w7 ⟨rfl, hb7⟩
               have HO7 := Lib.hid (own_keptB HO.out hb7)
               have HB7 := Lib.hid (Below.later HB.out hb7 HB.out.size)
               clear hb7
               dsimp only
               generalize hgo : ofG (D.X k c).g = og at *
               go_wp2_with (at_builtin; refine wpList_append_own _ rfl _ _ 56 rfl wx16.heap.size 5 i0 (.int .u8 0) 1 1 Tryz.underlying56 hi hz0 hz1 hz2 rfl (by decide) _ l'.length _ rfl (own_keptB HO7.out (below1 w7 _)) ⟨w7.heap.size, 0, none⟩ 1 1 [.int .u8 (og.toNat : Int)] rfl rfl (cell_one_new _ _ _) (by simp [Value.oneCell']) (by unfold maxLen; omega) (by omega) (by rw [World.size_alloc]; have := HB7.out.size; omega) ?_; intro v' w8 hown' hgrow _; have HOw8 := Lib.hid hown'; have HBw8 := Lib.hid ((HB7.out.alloc HB7.out.size _).grown hgrow (by rw [World.size_alloc]; have := HB7.out.size; omega) (fun j e => (own_cells HO7.out e).1)); clear hown' hgrow)
               refine ⟨⟨c + 1, true, l' ++ [og], rfl, rfl, by omega, fun _ => by omega, HEQ2.out, ?_, HBw8.out⟩, by simp [intOf]; omega⟩
               rw [← bytesV_end, List.length_append]
               exact HOw8.out
           · rw [hgd] at xd
             rw [sendR_shut ofG (D.X k) c sent n hgd, ← hn2] at heq
             have HEQ2 := Lib.hid heq
             have HS2 : Hid (sent = true → 1 ≤ c + 1) := fun _ => by omega
             clear heq hown hB hx0 hx1 hRW hBW hs hn hn2 hgd
             go_wp2_with fail
             exact ⟨⟨c + 1, sent, l', rfl, rfl, by omega, HS2.out, HEQ2.out, HO.out, HB.out⟩, by simp [intOf]; omega⟩
         · have hcz : ¬ (c : Int) ≤ (b : Int) := by omega
           have hc0 : b + 1 - c = 0 := by omega
           have hwk : IntKind.i64.wrap ((k : Int) + 1) = ((k + 1 : Nat) : Int) := by rw [wrap_in (by omega) (by omega)]; rfl
           rw [hc0] at heq
           have heq2 : l' ++ tailF ofG D r a q b k = T := heq
           rw [HTL.out] at heq2
           have HEQ3 := Lib.hid (show l' ++ rF ofG D r a q b (k + 1) = T by rw [HRE.out]; exact heq2)
           clear heq heq2 hown hB hx0 hx1 hRW hBW hs hc0
           go_wp2_with fail
           exact ⟨⟨k + 1, l', rfl, by omega, by omega, HEQ3.out, HO.out, HB.out⟩, by simp [intOf]; omega⟩
      · have hkqb : ((k : Int) == (q : Int)) = false := by simp; omega
        rw [HROW.out k hk1 hle2, show firstC r a k = a from if_pos hkr, show lastC D q b k = D.C - 1 from if_neg hkq] at heq
        generalize hlc : D.C - 1 = lc at *
        have hlc2 : lc < D.C := by omega
        have HEQ := Lib.hid heq
        have HFL := Lib.hid (show a ≤ lc + 1 by omega)
        have HTL := Lib.hid (show tailF ofG D r a q b k = 31 :: rF ofG D r a q b (k + 1) from if_pos (by omega))
        have hkqz : (k : Int) < (q : Int) := by omega
        clear heq hown hB hx0 hx1 hRW hBW hkr hkq
        try clear hlc
        go_upto_region 11 with fail
        have HBD : Hid (Below wx16.heap.size wx16 wr.drew) := HB.out.drew
        have HOD : Hid (wr.drew.ownsRow wx16.heap.size 5 1 (.slice a0 l.length c0) l.length (bytesV l)) := HO.out
        clear HO HB HBW p0 p1 q0 q1 g0
        refine wp_region_noPanic ?_
        refine wp_region_k (S := fun W' : World => Below wx16.heap.size wx16 W') 999 (by kernel_rfl) (HBD.out) (fun hHeld => ?_)
        refine kSK 0 hHeld ?_
        refine kSK 1 hHeld ?_
        refine kSK 2 hHeld ?_
        refine kHK (v := ?_) 3 hHeld ?y4 ?_
        case y4 => (intro W hSw; have g0 := (HA.out _ hSw).2.1.gcell hkR; go_simp; try with_reducible rfl)
        refine kSK 4 hHeld ?_
        try refine kNK ?_
        refine kSK 5 hHeld ?_
        refine kSK 6 hHeld ?_
        refine kSK 7 hHeld ?_
        try refine kNK ?_
        refine wpAnyK_done (by kernel_rfl) ?_ _
        refine NoPanic.normal ?_
        obtain ⟨⟨hx0, hx1⟩, _, _⟩ := HA.out _ HBD.out
        obtain ⟨p0, p1, _⟩ := row2 hx0
        obtain ⟨q0, q1, _⟩ := row2 hx1
        clear hx0 hx1
        go_wp2_with fail
        go_loopw [10, 14, 15] (fun v s cc wr => ∃ (c : Nat) (sent : Bool) (l' : List UInt8), s = .bool sent ∧ cc = .int .i64 (c : Int) ∧ c ≤ lc + 1 ∧ (sent = true → 1 ≤ c) ∧ l' ++ (sendR ofG (D.X k) c sent (lc + 1 - c) ++ tailF ofG D r a q b k) = T ∧ wr.ownsRow wx16.heap.size 5 1 v l'.length (bytesV l') ∧ Below wx16.heap.size wx16 wr) (fun _ _ cc _ => lc + 1 - (intOf cc).toNat)
        case atStart => exact ⟨a, false, l, rfl, rfl, HFL.out, fun h => (by cases h), HEQ.out, HOD.out, HBD.out⟩
        case round =>
         clear HEQ HOD HBD HFL p0 p1 q0 q1
         obtain ⟨c, sent, l', rfl, rfl, hc, hs, heq, hown, hB⟩ := hrel
         obtain ⟨a0, c0, rfl⟩ := own_val hown
         obtain ⟨⟨hx0, hx1⟩, hRW, hBW⟩ := HA.out _ hB
         obtain ⟨p0, p1, _⟩ := row2 hx0
         obtain ⟨q0, q1, _⟩ := row2 hx1
         have g0 := hRW.gcell hkR
         have hll := HL.out _ _ heq
         have HB := Lib.hid hB
         have HO := Lib.hid hown
         by_cases hcl : c ≤ lc
         · have hcz : (c : Int) ≤ (lc : Int) := by omega
           have hcC : c < D.C := by have := hlc2; omega
           have hcCz : (c : Int) < (D.C : Int) := by omega
           have hwm : IntKind.i64.wrap ((c : Int) + 1) = ((c + 1 : Nat) : Int) := by rw [wrap_in (by omega) (by omega)]; rfl
           obtain ⟨xg, xd⟩ := hRW.xcell hkR hcC
           obtain ⟨n, hn⟩ : ∃ n, lc + 1 - c = n + 1 := ⟨lc - c, by omega⟩
           have hn2 : lc + 1 - (c + 1) = n := by omega
           rw [hn] at heq
           have HRW := Lib.hid hRW
           cases hgd : (D.X k c).gd
           · rw [hgd] at xd
             rw [sendR_open ofG (D.X k) c sent n hgd] at heq
             by_cases hst : sent = true
             · have h1 := hs hst
               subst hst
               obtain ⟨_, xm⟩ := hRW.xcell (i := k) (j := c - 1) hkR (by omega)
               have hw1 : IntKind.i64.wrap ((c : Int) - 1) = ((c - 1 : Nat) : Int) := by rw [wrap_in (by omega) (by omega)]; omega
               have hm1 : ((c - 1 : Nat) : Int) < (D.C : Int) := by omega
               cases hgm : (D.X k (c - 1)).gd
               · rw [hgm] at xm
                 rw [if_neg (by rw [hgm]; decide)] at heq
                 have HEQ2 := Lib.hid (show (l' ++ [ofG (D.X k c).g]) ++ (sendR ofG (D.X k) (c + 1) true (lc + 1 - (c + 1)) ++ tailF ofG D r a q b k) = T by rw [hn2, ← heq]; simp)
                 clear heq hown hB hx0 hx1 hRW hBW hs hn hn2 hgd hgm
                 go_wp2_with fail
                 refine (HOF.out _ _).mono ?_
                 rintro e w7 ⟨rfl, hb7⟩
                 have HO7 := Lib.hid (own_keptB HO.out hb7)
                 have HB7 := Lib.hid (Below.later HB.out hb7 HB.out.size)
                 clear hb7
                 dsimp only
                 generalize hgo : ofG (D.X k c).g = og at *
                 go_wp2_with (at_builtin; refine wpList_append_own _ rfl _ _ 56 rfl wx16.heap.size 5 i0 (.int .u8 0) 1 1 Tryz.underlying56 hi hz0 hz1 hz2 rfl (by decide) _ l'.length _ rfl (own_keptB HO7.out (below1 w7 _)) ⟨w7.heap.size, 0, none⟩ 1 1 [.int .u8 (og.toNat : Int)] rfl rfl (cell_one_new _ _ _) (by simp [Value.oneCell']) (by unfold maxLen; omega) (by omega) (by rw [World.size_alloc]; have := HB7.out.size; omega) ?_; intro v' w8 hown' hgrow _; have HOw8 := Lib.hid hown'; have HBw8 := Lib.hid ((HB7.out.alloc HB7.out.size _).grown hgrow (by rw [World.size_alloc]; have := HB7.out.size; omega) (fun j e => (own_cells HO7.out e).1)); clear hown' hgrow)
                 refine ⟨⟨c + 1, true, l' ++ [og], rfl, rfl, by omega, fun _ => by omega, HEQ2.out, ?_, HBw8.out⟩, by simp [intOf]; omega⟩
                 rw [← bytesV_end, List.length_append]
                 exact HOw8.out
               · rw [hgm] at xm
                 rw [if_pos ⟨rfl, hgm⟩] at heq
                 have HEQ2 := Lib.hid (show ((l' ++ [28]) ++ [ofG (D.X k c).g]) ++ (sendR ofG (D.X k) (c + 1) true (lc + 1 - (c + 1)) ++ tailF ofG D r a q b k) = T by rw [hn2, ← heq]; simp)
                 clear heq hown hB hx0 hx1 hBW hs hn hn2 hgd hgm hRW
                 go_wp2_with (at_builtin; refine wpList_append_own _ rfl _ _ 56 rfl wx16.heap.size 5 i0 (.int .u8 0) 1 1 Tryz.underlying56 hi hz0 hz1 hz2 rfl (by decide) _ l'.length _ rfl (own_keptB HO.out (below1 wr _)) ⟨wr.heap.size, 0, none⟩ 1 1 [.int .u8 28] rfl rfl (cell_one_new _ _ _) (by simp [Value.oneCell']) (by unfold maxLen; omega) (by omega) (by rw [World.size_alloc]; have := HB.out.size; omega) ?_; intro v' w5 hown' hgrow _; have HOw5 := Lib.hid hown'; have HBw5 := Lib.hid ((HB.out.alloc HB.out.size _).grown hgrow (by rw [World.size_alloc]; have := HB.out.size; omega) (fun j e => (own_cells HO.out e).1)); clear hown' hgrow; clear g0 xg xd xm; obtain ⟨_, hR5, _⟩ := HA.out _ HBw5.out; have g0 := hR5.gcell hkR; obtain ⟨xg, _⟩ := hR5.xcell hkR hcC; clear hR5)
                 have HO5 := Lib.hid (show w5.ownsRow wx16.heap.size 5 1 v' (l' ++ [28]).length (bytesV (l' ++ [28])) by rw [← bytesV_end, List.length_append]; exact HOw5.out)
                 obtain ⟨a5, c5, rfl⟩ := own_val HO5.out
                 have hl5 : (l' ++ [28]).length ≤ 200001 := by rw [List.length_append]; simp; omega
                 generalize l' ++ [28] = l5 at *
                 clear HOw5
                 refine (HOF.out _ _).mono ?_
                 rintro e w7 ⟨rfl, hb7⟩
                 have HO7 := Lib.hid (own_keptB HO5.out hb7)
                 have HB7 := Lib.hid (Below.later HBw5.out hb7 HBw5.out.size)
                 clear hb7
                 dsimp only
                 generalize hgo : ofG (D.X k c).g = og at *
                 go_wp2_with (at_builtin; refine wpList_append_own _ rfl _ _ 56 rfl wx16.heap.size 5 i0 (.int .u8 0) 1 1 Tryz.underlying56 hi hz0 hz1 hz2 rfl (by decide) _ l5.length _ rfl (own_keptB HO7.out (below1 w7 _)) ⟨w7.heap.size, 0, none⟩ 1 1 [.int .u8 (og.toNat : Int)] rfl rfl (cell_one_new _ _ _) (by simp [Value.oneCell']) (by unfold maxLen; omega) (by omega) (by rw [World.size_alloc]; have := HB7.out.size; omega) ?_; intro v' w8 hown' hgrow _; have HOw8 := Lib.hid hown'; have HBw8 := Lib.hid ((HB7.out.alloc HB7.out.size _).grown hgrow (by rw [World.size_alloc]; have := HB7.out.size; omega) (fun j e => (own_cells HO7.out e).1)); clear hown' hgrow)
                 refine ⟨⟨c + 1, true, l5 ++ [og], rfl, rfl, by omega, fun _ => by omega, HEQ2.out, ?_, HBw8.out⟩, by simp [intOf]; omega⟩
                 rw [← bytesV_end, List.length_append]
                 exact HOw8.out
             · have hst2 : sent = false := by cases sent <;> simp_all
               subst hst2
               rw [if_neg (by simp)] at heq
               have HEQ2 := Lib.hid (show (l' ++ [ofG (D.X k c).g]) ++ (sendR ofG (D.X k) (c + 1) true (lc + 1 - (c + 1)) ++ tailF ofG D r a q b k) = T by rw [hn2, ← heq]; simp)
               clear heq hown hB hx0 hx1 hRW hBW hs hn hn2 hgd hst
               go_wp2_with fail
               refine (HOF.out _ _).mono ?_
               rintro e w7 ⟨rfl, hb7⟩
               have HO7 := Lib.hid (own_keptB HO.out hb7)
               have HB7 := Lib.hid (Below.later HB.out hb7 HB.out.size)
               clear hb7
               dsimp only
               generalize hgo : ofG (D.X k c).g = og at *
               go_wp2_with (at_builtin; refine wpList_append_own _ rfl _ _ 56 rfl wx16.heap.size 5 i0 (.int .u8 0) 1 1 Tryz.underlying56 hi hz0 hz1 hz2 rfl (by decide) _ l'.length _ rfl (own_keptB HO7.out (below1 w7 _)) ⟨w7.heap.size, 0, none⟩ 1 1 [.int .u8 (og.toNat : Int)] rfl rfl (cell_one_new _ _ _) (by simp [Value.oneCell']) (by unfold maxLen; omega) (by omega) (by rw [World.size_alloc]; have := HB7.out.size; omega) ?_; intro v' w8 hown' hgrow _; have HOw8 := Lib.hid hown'; have HBw8 := Lib.hid ((HB7.out.alloc HB7.out.size _).grown hgrow (by rw [World.size_alloc]; have := HB7.out.size; omega) (fun j e => (own_cells HO7.out e).1)); clear hown' hgrow)
               refine ⟨⟨c + 1, true, l' ++ [og], rfl, rfl, by omega, fun _ => by omega, HEQ2.out, ?_, HBw8.out⟩, by simp [intOf]; omega⟩
               rw [← bytesV_end, List.length_append]
               exact HOw8.out
           · rw [hgd] at xd
             rw [sendR_shut ofG (D.X k) c sent n hgd, ← hn2] at heq
             have HEQ2 := Lib.hid heq
             have HS2 : Hid (sent = true → 1 ≤ c + 1) := fun _ => by omega
             clear heq hown hB hx0 hx1 hRW hBW hs hn hn2 hgd
             go_wp2_with fail
             exact ⟨⟨c + 1, sent, l', rfl, rfl, by omega, HS2.out, HEQ2.out, HO.out, HB.out⟩, by simp [intOf]; omega⟩
         · have hcz : ¬ (c : Int) ≤ (lc : Int) := by omega
           have hc0 : lc + 1 - c = 0 := by omega
           have hwk : IntKind.i64.wrap ((k : Int) + 1) = ((k + 1 : Nat) : Int) := by rw [wrap_in (by omega) (by omega)]; rfl
           rw [hc0] at heq
           have heq2 : l' ++ tailF ofG D r a q b k = T := heq
           rw [HTL.out] at heq2
           have HEQ3 := Lib.hid (show (l' ++ [31]) ++ rF ofG D r a q b (k + 1) = T by rw [← heq2]; simp)
           clear heq heq2 hown hB hx0 hx1 hRW hBW hs hc0
           go_wp2_with (at_builtin; refine wpList_append_own _ rfl _ _ 56 rfl wx16.heap.size 5 i0 (.int .u8 0) 1 1 Tryz.underlying56 hi hz0 hz1 hz2 rfl (by decide) _ l'.length _ rfl (own_keptB HO.out (below1 wr _)) ⟨wr.heap.size, 0, none⟩ 1 1 [.int .u8 31] rfl rfl (cell_one_new _ _ _) (by simp [Value.oneCell']) (by unfold maxLen; omega) (by omega) (by rw [World.size_alloc]; have := HB.out.size; omega) ?_; intro v' w6 hown' hgrow _; have HOw6 := Lib.hid hown'; have HBw6 := Lib.hid ((HB.out.alloc HB.out.size _).grown hgrow (by rw [World.size_alloc]; have := HB.out.size; omega) (fun j e => (own_cells HO.out e).1)); clear hown' hgrow)
           refine ⟨⟨k + 1, l' ++ [31], rfl, by omega, by omega, HEQ3.out, ?_, HBw6.out⟩, by simp [intOf]; omega⟩
           rw [← bytesV_end, List.length_append]
           exact HOw6.out
    · have hkb : ((k : Int) == (r : Int)) = false := by simp; omega
      by_cases hkq : k = q
      · have hkqb : ((k : Int) == (q : Int)) = true := by simp [hkq]
        rw [HROW.out k hk1 hle2, show firstC r a k = 0 from if_neg hkr, show lastC D q b k = b from if_pos hkq] at heq
        have HEQ := Lib.hid heq
        have HFL := Lib.hid (show 0 ≤ b + 1 by omega)
        have HTL := Lib.hid (show tailF ofG D r a q b k = [] from if_neg (by omega))
        have HRE := Lib.hid (show rF ofG D r a q b (k + 1) = [] from if_neg (by omega))
        have hkqz : ¬ (k : Int) < (q : Int) := by omega
        clear heq hown hB hx0 hx1 hRW hBW hkr hkq
        go_upto_region 11 with fail
        have HBD : Hid (Below wx16.heap.size wx16 wr.drew) := HB.out.drew
        have HOD : Hid (wr.drew.ownsRow wx16.heap.size 5 1 (.slice a0 l.length c0) l.length (bytesV l)) := HO.out
        clear HO HB HBW p0 p1 q0 q1 g0
        refine wp_region_noPanic ?_
        refine wp_region_k (S := fun W' : World => Below wx16.heap.size wx16 W') 999 (by kernel_rfl) (HBD.out) (fun hHeld => ?_)
        refine kSK 0 hHeld ?_
        refine kSK 1 hHeld ?_
        refine kSK 2 hHeld ?_
        refine kHK (v := ?_) 3 hHeld ?y4 ?_
        case y4 => (intro W hSw; have g0 := (HA.out _ hSw).2.1.gcell hkR; go_simp; try with_reducible rfl)
        refine kSK 4 hHeld ?_
        try refine kNK ?_
        refine kSK 5 hHeld ?_
        refine kSK 6 hHeld ?_
        refine kSK 7 hHeld ?_
        try refine kNK ?_
        refine wpAnyK_done (by kernel_rfl) ?_ _
        refine NoPanic.normal ?_
        obtain ⟨⟨hx0, hx1⟩, _, _⟩ := HA.out _ HBD.out
        obtain ⟨p0, p1, _⟩ := row2 hx0
        obtain ⟨q0, q1, _⟩ := row2 hx1
        clear hx0 hx1
        go_wp2_with fail
        go_loopw [10, 14, 15] (fun v s cc wr => ∃ (c : Nat) (sent : Bool) (l' : List UInt8), s = .bool sent ∧ cc = .int .i64 (c : Int) ∧ c ≤ b + 1 ∧ (sent = true → 1 ≤ c) ∧ l' ++ (sendR ofG (D.X k) c sent (b + 1 - c) ++ tailF ofG D r a q b k) = T ∧ wr.ownsRow wx16.heap.size 5 1 v l'.length (bytesV l') ∧ Below wx16.heap.size wx16 wr) (fun _ _ cc _ => b + 1 - (intOf cc).toNat)
        case atStart => exact ⟨0, false, l, rfl, rfl, HFL.out, fun h => (by cases h), HEQ.out, HOD.out, HBD.out⟩
        case round =>
         clear HEQ HOD HBD HFL p0 p1 q0 q1
         obtain ⟨c, sent, l', rfl, rfl, hc, hs, heq, hown, hB⟩ := hrel
         obtain ⟨a0, c0, rfl⟩ := own_val hown
         obtain ⟨⟨hx0, hx1⟩, hRW, hBW⟩ := HA.out _ hB
         obtain ⟨p0, p1, _⟩ := row2 hx0
         obtain ⟨q0, q1, _⟩ := row2 hx1
         have g0 := hRW.gcell hkR
         have hll := HL.out _ _ heq
         have HB := Lib.hid hB
         have HO := Lib.hid hown
         by_cases hcl : c ≤ b
         · have hcz : (c : Int) ≤ (b : Int) := by omega
           have hcC : c < D.C := by have := hb; omega
           have hcCz : (c : Int) < (D.C : Int) := by omega
           have hwm : IntKind.i64.wrap ((c : Int) + 1) = ((c + 1 : Nat) : Int) := by rw [wrap_in (by omega) (by omega)]; rfl
           obtain ⟨xg, xd⟩ := hRW.xcell hkR hcC
           obtain ⟨n, hn⟩ : ∃ n, b + 1 - c = n + 1 := ⟨b - c, by omega⟩
           have hn2 : b + 1 - (c + 1) = n := by omega
           rw [hn] at heq
           have HRW := Lib.hid hRW
           cases hgd : (D.X k c).gd
           · rw [hgd] at xd
             rw [sendR_open ofG (D.X k) c sent n hgd] at heq
             by_cases hst : sent = true
             · have h1 := hs hst
               subst hst
               obtain ⟨_, xm⟩ := hRW.xcell (i := k) (j := c - 1) hkR (by omega)
               have hw1 : IntKind.i64.wrap ((c : Int) - 1) = ((c - 1 : Nat) : Int) := by rw [wrap_in (by omega) (by omega)]; omega
               have hm1 : ((c - 1 : Nat) : Int) < (D.C : Int) := by omega
               cases hgm : (D.X k (c - 1)).gd
               · rw [hgm] at xm
                 rw [if_neg (by rw [hgm]; decide)] at heq
                 have HEQ2 := Lib.hid (show (l' ++ [ofG (D.X k c).g]) ++ (sendR ofG (D.X k) (c + 1) true (b + 1 - (c + 1)) ++ tailF ofG D r a q b k) = T by rw [hn2, ← heq]; simp)
                 clear heq hown hB hx0 hx1 hRW hBW hs hn hn2 hgd hgm
                 go_wp2_with fail
                 refine (HOF.out _ _).mono ?_
                 rintro e w7 ⟨rfl, hb7⟩
                 have HO7 := Lib.hid (own_keptB HO.out hb7)
                 have HB7 := Lib.hid (Below.later HB.out hb7 HB.out.size)
                 clear hb7
                 dsimp only
                 generalize hgo : ofG (D.X k c).g = og at *
                 go_wp2_with (at_builtin; refine wpList_append_own _ rfl _ _ 56 rfl wx16.heap.size 5 i0 (.int .u8 0) 1 1 Tryz.underlying56 hi hz0 hz1 hz2 rfl (by decide) _ l'.length _ rfl (own_keptB HO7.out (below1 w7 _)) ⟨w7.heap.size, 0, none⟩ 1 1 [.int .u8 (og.toNat : Int)] rfl rfl (cell_one_new _ _ _) (by simp [Value.oneCell']) (by unfold maxLen; omega) (by omega) (by rw [World.size_alloc]; have := HB7.out.size; omega) ?_; intro v' w8 hown' hgrow _; have HOw8 := Lib.hid hown'; have HBw8 := Lib.hid ((HB7.out.alloc HB7.out.size _).grown hgrow (by rw [World.size_alloc]; have := HB7.out.size; omega) (fun j e => (own_cells HO7.out e).1)); clear hown' hgrow)
                 refine ⟨⟨c + 1, true, l' ++ [og], rfl, rfl, by omega, fun _ => by omega, HEQ2.out, ?_, HBw8.out⟩, by simp [intOf]; omega⟩
                 rw [← bytesV_end, List.length_append]
                 exact HOw8.out
               · rw [hgm] at xm
                 rw [if_pos ⟨rfl, hgm⟩] at heq
                 have HEQ2 := Lib.hid (show ((l' ++ [28]) ++ [ofG (D.X k c).g]) ++ (sendR ofG (D.X k) (c + 1) true (b + 1 - (c + 1)) ++ tailF ofG D r a q b k) = T by rw [hn2, ← heq]; simp)
                 clear heq hown hB hx0 hx1 hBW hs hn hn2 hgd hgm hRW
                 go_wp2_with (at_builtin; refine wpList_append_own _ rfl _ _ 56 rfl wx16.heap.size 5 i0 (.int .u8 0) 1 1 Tryz.underlying56 hi hz0 hz1 hz2 rfl (by decide) _ l'.length _ rfl (own_keptB HO.out (below1 wr _)) ⟨wr.heap.size, 0, none⟩ 1 1 [.int .u8 28] rfl rfl (cell_one_new _ _ _) (by simp [Value.oneCell']) (by unfold maxLen; omega) (by omega) (by rw [World.size_alloc]; have := HB.out.size; omega) ?_; intro v' w5 hown' hgrow _; have HOw5 := Lib.hid hown'; have HBw5 := Lib.hid ((HB.out.alloc HB.out.size _).grown hgrow (by rw [World.size_alloc]; have := HB.out.size; omega) (fun j e => (own_cells HO.out e).1)); clear hown' hgrow; clear g0 xg xd xm; obtain ⟨_, hR5, _⟩ := HA.out _ HBw5.out; have g0 := hR5.gcell hkR; obtain ⟨xg, _⟩ := hR5.xcell hkR hcC; clear hR5)
                 have HO5 := Lib.hid (show w5.ownsRow wx16.heap.size 5 1 v' (l' ++ [28]).length (bytesV (l' ++ [28])) by rw [← bytesV_end, List.length_append]; exact HOw5.out)
                 obtain ⟨a5, c5, rfl⟩ := own_val HO5.out
                 have hl5 : (l' ++ [28]).length ≤ 200001 := by rw [List.length_append]; simp; omega
                 generalize l' ++ [28] = l5 at *
                 clear HOw5
                 refine (HOF.out _ _).mono ?_
                 rintro e w7 ⟨rfl, hb7⟩
                 have HO7 := Lib.hid (own_keptB HO5.out hb7)
                 have HB7 := Lib.hid (Below.later HBw5.out hb7 HBw5.out.size)
                 clear hb7
                 dsimp only
                 generalize hgo : ofG (D.X k c).g = og at *
                 go_wp2_with (at_builtin; refine wpList_append_own _ rfl _ _ 56 rfl wx16.heap.size 5 i0 (.int .u8 0) 1 1 Tryz.underlying56 hi hz0 hz1 hz2 rfl (by decide) _ l5.length _ rfl (own_keptB HO7.out (below1 w7 _)) ⟨w7.heap.size, 0, none⟩ 1 1 [.int .u8 (og.toNat : Int)] rfl rfl (cell_one_new _ _ _) (by simp [Value.oneCell']) (by unfold maxLen; omega) (by omega) (by rw [World.size_alloc]; have := HB7.out.size; omega) ?_; intro v' w8 hown' hgrow _; have HOw8 := Lib.hid hown'; have HBw8 := Lib.hid ((HB7.out.alloc HB7.out.size _).grown hgrow (by rw [World.size_alloc]; have := HB7.out.size; omega) (fun j e => (own_cells HO7.out e).1)); clear hown' hgrow)
                 refine ⟨⟨c + 1, true, l5 ++ [og], rfl, rfl, by omega, fun _ => by omega, HEQ2.out, ?_, HBw8.out⟩, by simp [intOf]; omega⟩
                 rw [← bytesV_end, List.length_append]
                 exact HOw8.out
             · have hst2 : sent = false := by cases sent <;> simp_all
               subst hst2
               rw [if_neg (by simp)] at heq
               have HEQ2 := Lib.hid (show (l' ++ [ofG (D.X k c).g]) ++ (sendR ofG (D.X k) (c + 1) true (b + 1 - (c + 1)) ++ tailF ofG D r a q b k) = T by rw [hn2, ← heq]; simp)
               clear heq hown hB hx0 hx1 hRW hBW hs hn hn2 hgd hst
               go_wp2_with fail
               refine (HOF.out _ _).mono ?_
               rintro e w7 ⟨rfl, hb7⟩
               have HO7 := Lib.hid (own_keptB HO.out hb7)
               have HB7 := Lib.hid (Below.later HB.out hb7 HB.out.size)
               clear hb7
               dsimp only
               generalize hgo : ofG (D.X k c).g = og at *
               go_wp2_with (at_builtin; refine wpList_append_own _ rfl _ _ 56 rfl wx16.heap.size 5 i0 (.int .u8 0) 1 1 Tryz.underlying56 hi hz0 hz1 hz2 rfl (by decide) _ l'.length _ rfl (own_keptB HO7.out (below1 w7 _)) ⟨w7.heap.size, 0, none⟩ 1 1 [.int .u8 (og.toNat : Int)] rfl rfl (cell_one_new _ _ _) (by simp [Value.oneCell']) (by unfold maxLen; omega) (by omega) (by rw [World.size_alloc]; have := HB7.out.size; omega) ?_; intro v' w8 hown' hgrow _; have HOw8 := Lib.hid hown'; have HBw8 := Lib.hid ((HB7.out.alloc HB7.out.size _).grown hgrow (by rw [World.size_alloc]; have := HB7.out.size; omega) (fun j e => (own_cells HO7.out e).1)); clear hown' hgrow)
               refine ⟨⟨c + 1, true, l' ++ [og], rfl, rfl, by omega, fun _ => by omega, HEQ2.out, ?_, HBw8.out⟩, by simp [intOf]; omega⟩
               rw [← bytesV_end, List.length_append]
               exact HOw8.out
           · rw [hgd] at xd
             rw [sendR_shut ofG (D.X k) c sent n hgd, ← hn2] at heq
             have HEQ2 := Lib.hid heq
             have HS2 : Hid (sent = true → 1 ≤ c + 1) := fun _ => by omega
             clear heq hown hB hx0 hx1 hRW hBW hs hn hn2 hgd
             go_wp2_with fail
             exact ⟨⟨c + 1, sent, l', rfl, rfl, by omega, HS2.out, HEQ2.out, HO.out, HB.out⟩, by simp [intOf]; omega⟩
         · have hcz : ¬ (c : Int) ≤ (b : Int) := by omega
           have hc0 : b + 1 - c = 0 := by omega
           have hwk : IntKind.i64.wrap ((k : Int) + 1) = ((k + 1 : Nat) : Int) := by rw [wrap_in (by omega) (by omega)]; rfl
           rw [hc0] at heq
           have heq2 : l' ++ tailF ofG D r a q b k = T := heq
           rw [HTL.out] at heq2
           have HEQ3 := Lib.hid (show l' ++ rF ofG D r a q b (k + 1) = T by rw [HRE.out]; exact heq2)
           clear heq heq2 hown hB hx0 hx1 hRW hBW hs hc0
           go_wp2_with fail
           exact ⟨⟨k + 1, l', rfl, by omega, by omega, HEQ3.out, HO.out, HB.out⟩, by simp [intOf]; omega⟩
      · have hkqb : ((k : Int) == (q : Int)) = false := by simp; omega
        rw [HROW.out k hk1 hle2, show firstC r a k = 0 from if_neg hkr, show lastC D q b k = D.C - 1 from if_neg hkq] at heq
        generalize hlc : D.C - 1 = lc at *
        have hlc2 : lc < D.C := by omega
        have HEQ := Lib.hid heq
        have HFL := Lib.hid (show 0 ≤ lc + 1 by omega)
        have HTL := Lib.hid (show tailF ofG D r a q b k = 31 :: rF ofG D r a q b (k + 1) from if_pos (by omega))
        have hkqz : (k : Int) < (q : Int) := by omega
        clear heq hown hB hx0 hx1 hRW hBW hkr hkq
        try clear hlc
        go_upto_region 11 with fail
        have HBD : Hid (Below wx16.heap.size wx16 wr.drew) := HB.out.drew
        have HOD : Hid (wr.drew.ownsRow wx16.heap.size 5 1 (.slice a0 l.length c0) l.length (bytesV l)) := HO.out
        clear HO HB HBW p0 p1 q0 q1 g0
        refine wp_region_noPanic ?_
        refine wp_region_k (S := fun W' : World => Below wx16.heap.size wx16 W') 999 (by kernel_rfl) (HBD.out) (fun hHeld => ?_)
        refine kSK 0 hHeld ?_
        refine kSK 1 hHeld ?_
        refine kSK 2 hHeld ?_
        refine kHK (v := ?_) 3 hHeld ?y4 ?_
        case y4 => (intro W hSw; have g0 := (HA.out _ hSw).2.1.gcell hkR; go_simp; try with_reducible rfl)
        refine kSK 4 hHeld ?_
        try refine kNK ?_
        refine kSK 5 hHeld ?_
        refine kSK 6 hHeld ?_
        refine kSK 7 hHeld ?_
        try refine kNK ?_
        refine wpAnyK_done (by kernel_rfl) ?_ _
        refine NoPanic.normal ?_
        obtain ⟨⟨hx0, hx1⟩, _, _⟩ := HA.out _ HBD.out
        obtain ⟨p0, p1, _⟩ := row2 hx0
        obtain ⟨q0, q1, _⟩ := row2 hx1
        clear hx0 hx1
        go_wp2_with fail
        go_loopw [10, 14, 15] (fun v s cc wr => ∃ (c : Nat) (sent : Bool) (l' : List UInt8), s = .bool sent ∧ cc = .int .i64 (c : Int) ∧ c ≤ lc + 1 ∧ (sent = true → 1 ≤ c) ∧ l' ++ (sendR ofG (D.X k) c sent (lc + 1 - c) ++ tailF ofG D r a q b k) = T ∧ wr.ownsRow wx16.heap.size 5 1 v l'.length (bytesV l') ∧ Below wx16.heap.size wx16 wr) (fun _ _ cc _ => lc + 1 - (intOf cc).toNat)
        case atStart => exact ⟨0, false, l, rfl, rfl, HFL.out, fun h => (by cases h), HEQ.out, HOD.out, HBD.out⟩
        case round =>
         clear HEQ HOD HBD HFL p0 p1 q0 q1
         obtain ⟨c, sent, l', rfl, rfl, hc, hs, heq, hown, hB⟩ := hrel
         obtain ⟨a0, c0, rfl⟩ := own_val hown
         obtain ⟨⟨hx0, hx1⟩, hRW, hBW⟩ := HA.out _ hB
         obtain ⟨p0, p1, _⟩ := row2 hx0
         obtain ⟨q0, q1, _⟩ := row2 hx1
         have g0 := hRW.gcell hkR
         have hll := HL.out _ _ heq
         have HB := Lib.hid hB
         have HO := Lib.hid hown
         by_cases hcl : c ≤ lc
         · have hcz : (c : Int) ≤ (lc : Int) := by omega
           have hcC : c < D.C := by have := hlc2; omega
           have hcCz : (c : Int) < (D.C : Int) := by omega
           have hwm : IntKind.i64.wrap ((c : Int) + 1) = ((c + 1 : Nat) : Int) := by rw [wrap_in (by omega) (by omega)]; rfl
           obtain ⟨xg, xd⟩ := hRW.xcell hkR hcC
           obtain ⟨n, hn⟩ : ∃ n, lc + 1 - c = n + 1 := ⟨lc - c, by omega⟩
           have hn2 : lc + 1 - (c + 1) = n := by omega
           rw [hn] at heq
           have HRW := Lib.hid hRW
           cases hgd : (D.X k c).gd
           · rw [hgd] at xd
             rw [sendR_open ofG (D.X k) c sent n hgd] at heq
             by_cases hst : sent = true
             · have h1 := hs hst
               subst hst
               obtain ⟨_, xm⟩ := hRW.xcell (i := k) (j := c - 1) hkR (by omega)
               have hw1 : IntKind.i64.wrap ((c : Int) - 1) = ((c - 1 : Nat) : Int) := by rw [wrap_in (by omega) (by omega)]; omega
               have hm1 : ((c - 1 : Nat) : Int) < (D.C : Int) := by omega
               cases hgm : (D.X k (c - 1)).gd
               · rw [hgm] at xm
                 rw [if_neg (by rw [hgm]; decide)] at heq
                 have HEQ2 := Lib.hid (show (l' ++ [ofG (D.X k c).g]) ++ (sendR ofG (D.X k) (c + 1) true (lc + 1 - (c + 1)) ++ tailF ofG D r a q b k) = T by rw [hn2, ← heq]; simp)
                 clear heq hown hB hx0 hx1 hRW hBW hs hn hn2 hgd hgm
                 go_wp2_with fail
                 refine (HOF.out _ _).mono ?_
                 rintro e w7 ⟨rfl, hb7⟩
                 have HO7 := Lib.hid (own_keptB HO.out hb7)
                 have HB7 := Lib.hid (Below.later HB.out hb7 HB.out.size)
                 clear hb7
                 dsimp only
                 generalize hgo : ofG (D.X k c).g = og at *
                 go_wp2_with (at_builtin; refine wpList_append_own _ rfl _ _ 56 rfl wx16.heap.size 5 i0 (.int .u8 0) 1 1 Tryz.underlying56 hi hz0 hz1 hz2 rfl (by decide) _ l'.length _ rfl (own_keptB HO7.out (below1 w7 _)) ⟨w7.heap.size, 0, none⟩ 1 1 [.int .u8 (og.toNat : Int)] rfl rfl (cell_one_new _ _ _) (by simp [Value.oneCell']) (by unfold maxLen; omega) (by omega) (by rw [World.size_alloc]; have := HB7.out.size; omega) ?_; intro v' w8 hown' hgrow _; have HOw8 := Lib.hid hown'; have HBw8 := Lib.hid ((HB7.out.alloc HB7.out.size _).grown hgrow (by rw [World.size_alloc]; have := HB7.out.size; omega) (fun j e => (own_cells HO7.out e).1)); clear hown' hgrow)
                 refine ⟨⟨c + 1, true, l' ++ [og], rfl, rfl, by omega, fun _ => by omega, HEQ2.out, ?_, HBw8.out⟩, by simp [intOf]; omega⟩
                 rw [← bytesV_end, List.length_append]
                 exact HOw8.out
               · rw [hgm] at xm
                 rw [if_pos ⟨rfl, hgm⟩] at heq
                 have HEQ2 := Lib.hid (show ((l' ++ [28]) ++ [ofG (D.X k c).g]) ++ (sendR ofG (D.X k) (c + 1) true (lc + 1 - (c + 1)) ++ tailF ofG D r a q b k) = T by rw [hn2, ← heq]; simp)
                 clear heq hown hB hx0 hx1 hBW hs hn hn2 hgd hgm hRW
                 go_wp2_with (at_builtin; refine wpList_append_own _ rfl _ _ 56 rfl wx16.heap.size 5 i0 (.int .u8 0) 1 1 Tryz.underlying56 hi hz0 hz1 hz2 rfl (by decide) _ l'.length _ rfl (own_keptB HO.out (below1 wr _)) ⟨wr.heap.size, 0, none⟩ 1 1 [.int .u8 28] rfl rfl (cell_one_new _ _ _) (by simp [Value.oneCell']) (by unfold maxLen; omega) (by omega) (by rw [World.size_alloc]; have := HB.out.size; omega) ?_; intro v' w5 hown' hgrow _; have HOw5 := Lib.hid hown'; have HBw5 := Lib.hid ((HB.out.alloc HB.out.size _).grown hgrow (by rw [World.size_alloc]; have := HB.out.size; omega) (fun j e => (own_cells HO.out e).1)); clear hown' hgrow; clear g0 xg xd xm; obtain ⟨_, hR5, _⟩ := HA.out _ HBw5.out; have g0 := hR5.gcell hkR; obtain ⟨xg, _⟩ := hR5.xcell hkR hcC; clear hR5)
                 have HO5 := Lib.hid (show w5.ownsRow wx16.heap.size 5 1 v' (l' ++ [28]).length (bytesV (l' ++ [28])) by rw [← bytesV_end, List.length_append]; exact HOw5.out)
                 obtain ⟨a5, c5, rfl⟩ := own_val HO5.out
                 have hl5 : (l' ++ [28]).length ≤ 200001 := by rw [List.length_append]; simp; omega
                 generalize l' ++ [28] = l5 at *
                 clear HOw5
                 refine (HOF.out _ _).mono ?_
                 rintro e w7 ⟨rfl, hb7⟩
                 have HO7 := Lib.hid (own_keptB HO5.out hb7)
                 have HB7 := Lib.hid (Below.later HBw5.out hb7 HBw5.out.size)
                 clear hb7
                 dsimp only
                 generalize hgo : ofG (D.X k c).g = og at *
                 go_wp2_with (at_builtin; refine wpList_append_own _ rfl _ _ 56 rfl wx16.heap.size 5 i0 (.int .u8 0) 1 1 Tryz.underlying56 hi hz0 hz1 hz2 rfl (by decide) _ l5.length _ rfl (own_keptB HO7.out (below1 w7 _)) ⟨w7.heap.size, 0, none⟩ 1 1 [.int .u8 (og.toNat : Int)] rfl rfl (cell_one_new _ _ _) (by simp [Value.oneCell']) (by unfold maxLen; omega) (by omega) (by rw [World.size_alloc]; have := HB7.out.size; omega) ?_; intro v' w8 hown' hgrow _; have HOw8 := Lib.hid hown'; have HBw8 := Lib.hid ((HB7.out.alloc HB7.out.size _).grown hgrow (by rw [World.size_alloc]; have := HB7.out.size; omega) (fun j e => (own_cells HO7.out e).1)); clear hown' hgrow)
                 refine ⟨⟨c + 1, true, l5 ++ [og], rfl, rfl, by omega, fun _ => by omega, HEQ2.out, ?_, HBw8.out⟩, by simp [intOf]; omega⟩
                 rw [← bytesV_end, List.length_append]
                 exact HOw8.out
             · have hst2 : sent = false := by cases sent <;> simp_all
               subst hst2
               rw [if_neg (by simp)] at heq
               have HEQ2 := Lib.hid (show (l' ++ [ofG (D.X k c).g]) ++ (sendR ofG (D.X k) (c + 1) true (lc + 1 - (c + 1)) ++ tailF ofG D r a q b k) = T by rw [hn2, ← heq]; simp)
               clear heq hown hB hx0 hx1 hRW hBW hs hn hn2 hgd hst
               go_wp2_with fail
               refine (HOF.out _ _).mono ?_
               rintro e w7 ⟨rfl, hb7⟩
               have HO7 := Lib.hid (own_keptB HO.out hb7)
               have HB7 := Lib.hid (Below.later HB.out hb7 HB.out.size)
               clear hb7
               dsimp only
               generalize hgo : ofG (D.X k c).g = og at *
               go_wp2_with (at_builtin; refine wpList_append_own _ rfl _ _ 56 rfl wx16.heap.size 5 i0 (.int .u8 0) 1 1 Tryz.underlying56 hi hz0 hz1 hz2 rfl (by decide) _ l'.length _ rfl (own_keptB HO7.out (below1 w7 _)) ⟨w7.heap.size, 0, none⟩ 1 1 [.int .u8 (og.toNat : Int)] rfl rfl (cell_one_new _ _ _) (by simp [Value.oneCell']) (by unfold maxLen; omega) (by omega) (by rw [World.size_alloc]; have := HB7.out.size; omega) ?_; intro v' w8 hown' hgrow _; have HOw8 := Lib.hid hown'; have HBw8 := Lib.hid ((HB7.out.alloc HB7.out.size _).grown hgrow (by rw [World.size_alloc]; have := HB7.out.size; omega) (fun j e => (own_cells HO7.out e).1)); clear hown' hgrow)
               refine ⟨⟨c + 1, true, l' ++ [og], rfl, rfl, by omega, fun _ => by omega, HEQ2.out, ?_, HBw8.out⟩, by simp [intOf]; omega⟩
               rw [← bytesV_end, List.length_append]
               exact HOw8.out
           · rw [hgd] at xd
             rw [sendR_shut ofG (D.X k) c sent n hgd, ← hn2] at heq
             have HEQ2 := Lib.hid heq
             have HS2 : Hid (sent = true → 1 ≤ c + 1) := fun _ => by omega
             clear heq hown hB hx0 hx1 hRW hBW hs hn hn2 hgd
             go_wp2_with fail
             exact ⟨⟨c + 1, sent, l', rfl, rfl, by omega, HS2.out, HEQ2.out, HO.out, HB.out⟩, by simp [intOf]; omega⟩
         · have hcz : ¬ (c : Int) ≤ (lc : Int) := by omega
           have hc0 : lc + 1 - c = 0 := by omega
           have hwk : IntKind.i64.wrap ((k : Int) + 1) = ((k + 1 : Nat) : Int) := by rw [wrap_in (by omega) (by omega)]; rfl
           rw [hc0] at heq
           have heq2 : l' ++ tailF ofG D r a q b k = T := heq
           rw [HTL.out] at heq2
           have HEQ3 := Lib.hid (show (l' ++ [31]) ++ rF ofG D r a q b (k + 1) = T by rw [← heq2]; simp)
           clear heq heq2 hown hB hx0 hx1 hRW hBW hs hc0
           go_wp2_with (at_builtin; refine wpList_append_own _ rfl _ _ 56 rfl wx16.heap.size 5 i0 (.int .u8 0) 1 1 Tryz.underlying56 hi hz0 hz1 hz2 rfl (by decide) _ l'.length _ rfl (own_keptB HO.out (below1 wr _)) ⟨wr.heap.size, 0, none⟩ 1 1 [.int .u8 31] rfl rfl (cell_one_new _ _ _) (by simp [Value.oneCell']) (by unfold maxLen; omega) (by omega) (by rw [World.size_alloc]; have := HB.out.size; omega) ?_; intro v' w6 hown' hgrow _; have HOw6 := Lib.hid hown'; have HBw6 := Lib.hid ((HB.out.alloc HB.out.size _).grown hgrow (by rw [World.size_alloc]; have := HB.out.size; omega) (fun j e => (own_cells HO.out e).1)); clear hown' hgrow)
           refine ⟨⟨k + 1, l' ++ [31], rfl, by omega, by omega, HEQ3.out, ?_, HBw6.out⟩, by simp [intOf]; omega⟩
           rw [← bytesV_end, List.length_append]
           exact HOw6.out
  · have hkz : ¬ (k : Int) ≤ (q : Int) := by omega
    have hkq : k = q + 1 := by omega
    rw [hkq, HEND.out, List.append_nil] at heq
    subst heq
    have hcv := conv_own hown
    clear hown hB hx0 hx1 hRW hBW hkq
    go_wp2_with fail
    exact bodyPost_ret (v := .tuple #[.string ⟨l.toArray⟩, .int .i64 0]) (by simp [results, Tryz.results181, go_sem]) rfl ⟨rfl, HBW.out⟩
end
end Go.Proofs.YteoeooijpjehpaaGreatDoor
