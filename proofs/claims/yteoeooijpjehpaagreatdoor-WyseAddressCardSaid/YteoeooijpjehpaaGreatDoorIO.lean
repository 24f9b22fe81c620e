import Derived.Test.YteoeooijpjehpaaGreatDoorIN
import Derived.Test.YteoeooijpjehpaaGreatDoorID

set_option maxRecDepth 100000
set_option maxHeartbeats 16000000
namespace Go.Proofs.YteoeooijpjehpaaGreatDoor
open Go.RowKit
set_option linter.unusedSimpArgs false
set_option linter.unusedVariables false
/- Walks: a Wyse 60's bytes that end a longer sequence: an address, the status, graphics, attributes. -/
section
attribute [local go_sem] alloc_drewN setCell_drewN World.cell?_alloc_some frozen_alloc_some size_f0 size_f1
theorem ba_get0 (a : UInt8) (l : List UInt8) (h : 0 < (⟨(a :: l).toArray⟩ : ByteArray).size) : (⟨(a :: l).toArray⟩ : ByteArray)[0]'h = a := rfl
theorem run_ix (bs : ByteArray) (i : Nat) (x : UInt8) (h : i < bs.size) (hx : bs[i]'h = x) (W : World) : Sem.run Tryz.prog (Instr.index 9 (.string bs) (.int .i64 (i : Int))) W = .ok (.int .u8 x.toNat) W := by
 have := run_index_string (P := Tryz.prog) W 9 bs .i64 (i : Int) Tryz.underlying9
 rw [dif_pos ⟨by omega, by omega⟩] at this
 simp only [Int.toNat_natCast] at this
 rw [hx] at this
 exact this
theorem u8_sub (x : UInt8) : IntKind.i64.wrap ((x.toNat : Int) - 32) = (x.toNat : Int) - 32 := by
 have := x.toNat_lt
 exact wrap_in (by omega) (by omega)
theorem u8_wide (x : UInt8) : IntKind.i64.wrap (x.toNat : Int) = (x.toNat : Int) := by
 have := x.toNat_lt
 exact wrap_in (by omega) (by omega)
theorem wend_61 {w : World} {tp sp qp : Nat} {A : Wy} {F : Nat → Prop} {S : Vz.Sr} (h : Wys w tp sp qp A F S) (x y : UInt8) (t : List UInt8) : Calls Tryz.prog 56 #[.pointer (some ⟨tp, 0, none⟩), .int .u8 61, .string ⟨(x :: y :: t).toArray⟩] w fun e w' => e = .returned (.bool false) ∧ ScrTo w w' sp F (if 0 ≤ (x.toNat : Int) - 32 ∧ (x.toNat : Int) - 32 < (S.D.R : Int) ∧ 0 ≤ (y.toNat : Int) - 32 ∧ (y.toNat : Int) - 32 < (S.D.C : Int) then moveS S ⟨(x.toNat : Int) - 32, (y.toNat : Int) - 32⟩ else S) := by
 have HG := Lib.hid (fun W (hb : Below w.heap.size w W) => wys_goes (h.below hb) ((x.toNat : Int) - 32) ((y.toNat : Int) - 32))
 generalize (if 0 ≤ (x.toNat : Int) - 32 ∧ (x.toNat : Int) - 32 < (S.D.R : Int) ∧ 0 ≤ (y.toNat : Int) - 32 ∧ (y.toNat : Int) - 32 < (S.D.C : Int) then moveS S ⟨(x.toNat : Int) - 32, (y.toNat : Int) - 32⟩ else S) = S' at *
 have hg0 := fun h => ba_get0 x (y :: t) h
 have hg1 := fun h => ba_get1 x y t h
 have hz : (⟨(x :: y :: t).toArray⟩ : ByteArray).size = t.length + 1 + 1 := ba_sz _
 have h0 : 0 < (⟨(x :: y :: t).toArray⟩ : ByteArray).size := by omega
 have h1 : 1 < (⟨(x :: y :: t).toArray⟩ : ByteArray).size := by omega
 have s1 := u8_sub x
 have s2 := u8_sub y
 have c1 := u8_wide x
 have c2 := u8_wide y
 have HB : Hid (Below w.heap.size w w.drew) := (Below.refl _ _).drew
 clear h hz
 generalize hl : (⟨(x :: y :: t).toArray⟩ : ByteArray) = bs at *
 have i0 : ∀ W, Sem.run Tryz.prog (Instr.index 9 (.string bs) (.int .i64 0)) W = .ok (.int .u8 x.toNat) W := fun W => run_ix bs 0 x h0 (hg0 h0) W
 have i1 : ∀ W, Sem.run Tryz.prog (Instr.index 9 (.string bs) (.int .i64 1)) W = .ok (.int .u8 y.toNat) W := fun W => run_ix bs 1 y h1 (hg1 h1) W
 clear hl hg0 hg1 h0 h1
 go_enter Tryz.func56, Tryz.ntmps56
 go_upto_region 5 with fail
 refine wp_region_noPanic ?_
 refine wp_region_k (S := fun W : World => Below w.heap.size w W) 9 (by kernel_rfl) (HB.out) (fun hHeld => ?_)
 refine kSK 0 hHeld ?_
 refine kSK 1 hHeld ?_
 refine kTK (v := ?_) 2 [4, 3] hHeld ?y3 ?_
 case y3 => (intro W hSw; go_simp; try with_reducible rfl)
 refine kSK 3 hHeld ?_
 refine kSK 4 hHeld ?_
 try refine kNK ?_
 refine kSK 5 hHeld ?_
 refine kTK (v := ?_) 6 [8, 7] hHeld ?y7 ?_
 case y7 => (intro W hSw; go_simp; try with_reducible rfl)
 refine kSK 7 hHeld ?_
 refine kSK 8 hHeld ?_
 try refine kNK ?_
 refine kPK 9 fun KQ hKQ => ?_
 go_simp
 go_at_call 96
 refine (HG.out _ HB.out).mono ?_
 rintro e w2 ⟨rfl, ht⟩
 have HT := Lib.hid (ScrTo.after HB.out ht)
 clear ht
 go_wp2_with fail
 refine hKQ.out _ _ ?_
 clear hKQ KQ
 try refine kNK ?_
 refine wpAnyK_done (by kernel_rfl) ?_ _
 refine NoPanic.normal ?_
 go_wp2_with fail
 go_ret
 exact ⟨rfl, HT.out⟩
theorem wend_70 {w : World} {tp sp qp : Nat} {A : Wy} (h : w.heap[tp]? = some (.cells (wyB sp qp A) 75 (0, 0))) (l : List UInt8) (hl : l.length ≤ 1000000) : Calls Tryz.prog 56 #[.pointer (some ⟨tp, 0, none⟩), .int .u8 70, .string ⟨l.toArray⟩] w fun e w' => e = .returned (.bool false) ∧ w'.heap[tp]? = some (.cells (wyB sp qp { A with status := trimB l 13 }) 75 (0, 0)) ∧ Keeps (fun k => k = tp) w w' := by
 have HS := Lib.hid (st_trimSuffix l [13] hl w)
 have H := Lib.hid h
 have f8 := frozen_row h 8
 have g8 := cell_row h 8
 clear h
 go_enter Tryz.func56, Tryz.ntmps56
 go_wp2_with (go_at_call 97; refine HS.out.mono ?_; rintro e w1 ⟨rfl, rfl⟩)
 go_ret
 exact ⟨rfl, heap_set_same H.out 8 _, (Keeps.refl (fun k => k = tp) _).setCell' (p := ⟨tp, 8, none⟩) rfl _⟩
theorem wend_72_2 {w : World} {tp sp qp : Nat} {A : Wy} (h : w.heap[tp]? = some (.cells (wyB sp qp A) 75 (0, 0))) : Calls Tryz.prog 56 #[.pointer (some ⟨tp, 0, none⟩), .int .u8 72, .string ⟨#[50]⟩] w fun e w' => e = .returned (.bool false) ∧ w'.heap[tp]? = some (.cells (wyB sp qp { A with gr := true }) 75 (0, 0)) ∧ Keeps (fun k => k = tp) w w' := by
 have H := Lib.hid h
 have f4 := frozen_row h 4
 have g4 := cell_row h 4
 have e1 : ((⟨#[50]⟩ : ByteArray) == ⟨#[50]⟩) = true := by decide
 clear h
 go_enter Tryz.func56, Tryz.ntmps56
 go_wp2_with fail
 go_ret
 exact ⟨rfl, heap_set_same H.out 4 _, (Keeps.refl (fun k => k = tp) _).setCell' (p := ⟨tp, 4, none⟩) rfl _⟩
theorem wend_72_3 {w : World} {tp sp qp : Nat} {A : Wy} (h : w.heap[tp]? = some (.cells (wyB sp qp A) 75 (0, 0))) : Calls Tryz.prog 56 #[.pointer (some ⟨tp, 0, none⟩), .int .u8 72, .string ⟨#[51]⟩] w fun e w' => e = .returned (.bool false) ∧ w'.heap[tp]? = some (.cells (wyB sp qp { A with gr := false }) 75 (0, 0)) ∧ Keeps (fun k => k = tp) w w' := by
 have H := Lib.hid h
 have f4 := frozen_row h 4
 have g4 := cell_row h 4
 have e1 : ((⟨#[51]⟩ : ByteArray) == ⟨#[50]⟩) = false := by decide
 have e2 : ((⟨#[51]⟩ : ByteArray) == ⟨#[51]⟩) = true := by decide
 clear h
 go_enter Tryz.func56, Tryz.ntmps56
 go_wp2_with fail
 go_ret
 exact ⟨rfl, heap_set_same H.out 4 _, (Keeps.refl (fun k => k = tp) _).setCell' (p := ⟨tp, 4, none⟩) rfl _⟩
theorem wend_72_n (tp : Nat) (l : List UInt8) (h1 : l ≠ [50]) (h2 : l ≠ [51]) (w : World) : Calls Tryz.prog 56 #[.pointer (some ⟨tp, 0, none⟩), .int .u8 72, .string ⟨l.toArray⟩] w fun e w' => e = .returned (.bool false) ∧ w' = w := by
 have n1 : ¬ (⟨l.toArray⟩ : ByteArray).toList = [50] := by rw [ByteArray.toList_eq]; simpa using h1
 have n2 : ¬ (⟨l.toArray⟩ : ByteArray).toList = [51] := by rw [ByteArray.toList_eq]; simpa using h2
 clear h1 h2
 generalize (⟨l.toArray⟩ : ByteArray) = bs at *
 have q1 : (bs.toList == [50]) = false := by simpa using n1
 have q2 : (bs.toList == [51]) = false := by simpa using n2
 go_enter Tryz.func56, Tryz.ntmps56
 go_wp2_with fail
 go_ret
 exact ⟨rfl, rfl⟩
theorem bitsW_le {b : Nat} {a : Int} (h : bitsW b = some a) : 0 ≤ a ∧ a ≤ 62 := by
 unfold bitsW at h
 split at h
 · injection h with h
   subst h
   refine ⟨?_, ?_⟩
   · repeat' split
     all_goals omega
   · repeat' split
     all_goals omega
 · cases h
theorem wend_71_n (tp : Nat) (x : UInt8) (t : List UInt8) (hb : bitsW x.toNat = none) (w : World) : Calls Tryz.prog 56 #[.pointer (some ⟨tp, 0, none⟩), .int .u8 71, .string ⟨(x :: t).toArray⟩] w fun e w' => e = .returned (.bool false) ∧ w' = w := by
 have HBI := Lib.hid (fun W => wbits_ok x.toNat x.toNat_lt W)
 rw [hb] at HBI
 unfold bitsR at HBI
 simp only at HBI
 have hz : (⟨(x :: t).toArray⟩ : ByteArray).size = t.length + 1 := ba_sz _
 have h0 : 0 < (⟨(x :: t).toArray⟩ : ByteArray).size := by omega
 have hg0 := fun h => ba_get0 x t h
 generalize hl : (⟨(x :: t).toArray⟩ : ByteArray) = bs at *
 have i0 : ∀ W, Sem.run Tryz.prog (Instr.index 9 (.string bs) (.int .i64 0)) W = .ok (.int .u8 x.toNat) W := fun W => run_ix bs 0 x h0 (hg0 h0) W
 clear hl hg0 h0 hz hb
 go_enter Tryz.func56, Tryz.ntmps56
 go_wp2_with (go_at_call 99; refine (HBI.out _).mono ?_; rintro e w1 ⟨rfl, rfl⟩)
 go_ret
 exact ⟨rfl, rfl⟩
theorem wend_71_off {w : World} {tp sp qp : Nat} {A : Wy} (h : w.heap[tp]? = some (.cells (wyB sp qp A) 75 (0, 0))) (x : UInt8) (t : List UInt8) (a : Int) (hb : bitsW x.toNat = some a) (he : A.emb = false) : Calls Tryz.prog 56 #[.pointer (some ⟨tp, 0, none⟩), .int .u8 71, .string ⟨(x :: t).toArray⟩] w fun e w' => e = .returned (.bool false) ∧ w'.heap[tp]? = some (.cells (wyB sp qp { A with attr := a }) 75 (0, 0)) ∧ Keeps (fun k => k = tp) w w' := by
 have HBI := Lib.hid (fun W => wbits_ok x.toNat x.toNat_lt W)
 rw [hb] at HBI
 unfold bitsR at HBI
 simp only at HBI
 have H := Lib.hid h
 have f7 := frozen_row h 7
 have g7 := cell_row h 7
 have g6 : w.cell? ⟨tp, 6, none⟩ = some (.bool A.emb) := cell_row h 6
 rw [he] at g6
 have hz : (⟨(x :: t).toArray⟩ : ByteArray).size = t.length + 1 := ba_sz _
 have h0 : 0 < (⟨(x :: t).toArray⟩ : ByteArray).size := by omega
 have hg0 := fun h => ba_get0 x t h
 generalize hl : (⟨(x :: t).toArray⟩ : ByteArray) = bs at *
 have i0 : ∀ W, Sem.run Tryz.prog (Instr.index 9 (.string bs) (.int .i64 0)) W = .ok (.int .u8 x.toNat) W := fun W => run_ix bs 0 x h0 (hg0 h0) W
 clear hl hg0 h0 hz hb h he
 go_enter Tryz.func56, Tryz.ntmps56
 go_wp2_with (go_at_call 99; refine (HBI.out _).mono ?_; rintro e w1 ⟨rfl, rfl⟩)
 go_ret
 exact ⟨rfl, heap_set_same H.out 7 _, (Keeps.refl (fun k => k = tp) _).setCell' (p := ⟨tp, 7, none⟩) rfl _⟩
theorem wend_71_on {w : World} {tp sp qp : Nat} {A : Wy} {F : Nat → Prop} {S : Vz.Sr} (h : Wys w tp sp qp A F S) (x : UInt8) (t : List UInt8) (a : Int) (hb : bitsW x.toNat = some a) (he : A.emb = true) : Calls Tryz.prog 56 #[.pointer (some ⟨tp, 0, none⟩), .int .u8 71, .string ⟨(x :: t).toArray⟩] w fun e w' => e = .returned (.bool false) ∧ ScrTo w w' sp F (putAny (if A.ins = true then charsS S 1 Vz.Cl.blank A.pr else S) ⟨32, 0, A.gd, a + 1⟩ A.pr) := by
 have HBI := Lib.hid (fun W => wbits_ok x.toNat x.toNat_lt W)
 rw [hb] at HBI
 unfold bitsR at HBI
 simp only at HBI
 have hle := bitsW_le hb
 have hwa : IntKind.i64.wrap (a + 1) = a + 1 := wrap_in (by omega) (by omega)
 have HP := Lib.hid (wys_put h 32 0 (a + 1))
 generalize putAny (if A.ins = true then charsS S 1 Vz.Cl.blank A.pr else S) ⟨32, 0, A.gd, a + 1⟩ A.pr = S' at *
 have g6 : w.cell? ⟨tp, 6, none⟩ = some (.bool A.emb) := cell_row h.box 6
 rw [he] at g6
 have hz : (⟨(x :: t).toArray⟩ : ByteArray).size = t.length + 1 := ba_sz _
 have h0 : 0 < (⟨(x :: t).toArray⟩ : ByteArray).size := by omega
 have hg0 := fun h => ba_get0 x t h
 generalize hl : (⟨(x :: t).toArray⟩ : ByteArray) = bs at *
 have i0 : ∀ W, Sem.run Tryz.prog (Instr.index 9 (.string bs) (.int .i64 0)) W = .ok (.int .u8 x.toNat) W := fun W => run_ix bs 0 x h0 (hg0 h0) W
 clear hl hg0 h0 hz hb h he hle
 go_enter Tryz.func56, Tryz.ntmps56
 go_wp2_with (first
  | (go_at_call 99; refine (HBI.out _).mono ?_; rintro e w1 ⟨rfl, rfl⟩)
  | (go_at_call 91; refine HP.out.mono ?_; rintro e w1 ⟨rfl, ht⟩; have HT := Lib.hid ht; clear ht))
 go_ret
 exact ⟨rfl, HT.out⟩
theorem wend_one {w : World} {tp sp qp lb fr : Nat} {F FT : Nat → Prop} {A : Wy} (h : WyAt w tp sp qp lb fr F A) (hF : ∀ k, FT k ↔ footY tp qp lb F k) (b : Nat) (hb : b < 256) (l : List UInt8) (hn : b ≠ 61 ∧ b ≠ 97 ∧ b ≠ 70 ∧ b ≠ 72 ∧ b ≠ 71) : Calls Tryz.prog 56 #[.pointer (some ⟨tp, 0, none⟩), .int .u8 b, .string ⟨l.toArray⟩] w fun e w' => e = .returned (.bool (oneW (modesW A b) b).2) ∧ WTermTo w w' tp sp qp FT (oneW (modesW A b) b).1 := by
 have e61 : ((b : Int) == 61) = false := by simp; omega
 have e97 : ((b : Int) == 97) = false := by simp; omega
 have e70 : ((b : Int) == 70) = false := by simp; omega
 have e72 : ((b : Int) == 72) = false := by simp; omega
 have e71 : ((b : Int) == 71) = false := by simp; omega
 have HM := Lib.hid (wys_modes h.box b hb)
 have hsame : (modesW A b).S = A.S ∧ (modesW A b).q = A.q ∧ (modesW A b).over = A.over ∧ (modesW A b).most = A.most ∧ (modesW A b).seq = A.seq := by
  unfold modesW
  repeat' split
  all_goals exact ⟨rfl, rfl, rfl, rfl, rfl⟩
 have HO : Hid (∀ w1 : World, w1.heap[tp]? = some (.cells (wyB sp qp (modesW A b)) 75 (0, 0)) → Keeps (fun k => k = tp) w w1 → Calls Tryz.prog 101 #[.pointer (some ⟨tp, 0, none⟩), .int .u8 b] w1 fun e w' => e = .returned (.bool (oneW (modesW A b) b).2) ∧ WTermTo w w' tp sp qp FT (oneW (modesW A b) b).1) := fun w1 hb1 hk => by
  have h1 := h.boxed (A' := modesW A b) hsame.1 hsame.2.1 hsame.2.2.1 hsame.2.2.2.1 hb1 (by rw [hsame.2.2.2.2]; exact h.len) hk
  exact (wys_one h1 hF b).mono fun e w' h' => ⟨h'.1, WTermTo.link (fun k hk => .inl hk) (hk.mono fun k e => (hF k).2 (.inl e)) h'.2⟩
 generalize oneW (modesW A b) b = R at *
 obtain ⟨R1, R2⟩ := R
 clear h hF hn hsame hb
 go_enter Tryz.func56, Tryz.ntmps56
 go_wp2_with (first
  | (go_at_call 100; refine HM.out.mono ?_; rintro e w1 ⟨rfl, hx, hk⟩; have HX := Lib.hid hx; have HK := Lib.hid hk; clear hx hk)
  | (go_at_call 101; refine (HO.out _ HX.out HK.out).mono ?_; rintro e w2 ⟨rfl, ht⟩; have HT := Lib.hid ht; clear ht))
 go_ret
 exact ⟨rfl, HT.out⟩
end
end Go.Proofs.YteoeooijpjehpaaGreatDoor
