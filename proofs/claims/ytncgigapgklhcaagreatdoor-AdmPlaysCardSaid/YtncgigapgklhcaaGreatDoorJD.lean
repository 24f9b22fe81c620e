import Derived.Test.YtncgigapgklhcaaGreatDoorJC
import Derived.Deep.QuietTactic
import Derived.BigQuiet

set_option maxRecDepth 100000
set_option maxHeartbeats 16000000
namespace Go.Proofs.YtncgigapgklhcaaGreatDoor
open Go.RowKit
set_option linter.unusedSimpArgs false
set_option linter.unusedVariables false
/- Walks of vizardref18: cells. -/
section
set_option maxRecDepth 100000
attribute [local go_sem] alloc_drewN setCell_drewN World.cell?_alloc_some frozen_alloc_some size_f0 size_f1
theorem goesF_stop (F : Nat → Vz.Cl) (last m k : Nat) (h : ¬ (k < last ∧ (F (k + 1)).gd = false)) : goesF F last m k = k := by
 cases m with
 | zero => rfl
 | succ m => unfold goesF; rw [if_neg h]
theorem goesF_on (F : Nat → Vz.Cl) (last m k : Nat) (h : k < last ∧ (F (k + 1)).gd = false) : goesF F last (m + 1) k = goesF F last m (k + 1) := by
 conv => lhs; unfold goesF
 rw [if_pos h]
theorem goesF_in (F : Nat → Vz.Cl) (last : Nat) : ∀ (m k : Nat), k ≤ last → k ≤ goesF F last m k ∧ goesF F last m k ≤ last
 | 0, k, h => ⟨Nat.le_refl _, h⟩
 | m + 1, k, h => by
   unfold goesF
   by_cases e : k < last ∧ (F (k + 1)).gd = false
   · rw [if_pos e]
     have := goesF_in F last m (k + 1) e.1
     omega
   · rw [if_neg e]
     exact ⟨Nat.le_refl _, h⟩
theorem lastR_in {r : Rf} (hm : r.may) : r.here ≤ lastR r ∧ lastR r ≤ (r.row + 1) * r.C - 1 ∧ lastR r < r.R * r.C := by
 have hl := hm.here_lt
 have hn := hm.n
 have hc := hm.2.2.2.2.2
 have h0 : r.here ≤ (r.row + 1) * r.C - 1 := by unfold Rf.here; omega
 have := goesF_in r.F ((r.row + 1) * r.C - 1) r.C r.here h0
 unfold lastR
 split <;> omega
def cellsK (r : Rf) (right : Bool) (k : Nat) : Rf := { r with F := fun j => if r.here ≤ j ∧ j < k then cellsF r right j else r.F j }
section
variable {w : World} {rp lb cap sb : Nat} {r : Rf} {right : Bool}
theorem cellsK_zero (r : Rf) (right : Bool) : cellsK r right r.here = r := by
 unfold cellsK
 have : (fun j => if r.here ≤ j ∧ j < r.here then cellsF r right j else r.F j) = r.F := by
  funext j
  exact if_neg (fun e => by omega)
 rw [this]
theorem cellsK_on (r : Rf) (right : Bool) (k : Nat) (hk : r.here ≤ k) : (setR (cellsK r right k) k (cellsF r right k)).F = (cellsK r right (k + 1)).F := by
 funext j
 show (if j = k then cellsF r right k else if r.here ≤ j ∧ j < k then cellsF r right j else r.F j) = if r.here ≤ j ∧ j < k + 1 then cellsF r right j else r.F j
 by_cases e : j = k
 · subst e; rw [if_pos rfl, if_pos ⟨hk, Nat.lt_succ_self _⟩]
 · rw [if_neg e]
   by_cases h : r.here ≤ j ∧ j < k
   · rw [if_pos h, if_pos ⟨h.1, by omega⟩]
   · rw [if_neg h, if_neg (fun e' => h ⟨e'.1, by omega⟩)]
theorem cellsK_end (r : Rf) (right : Bool) : (cellsK r right (lastR r + 1)).F = cellsF r right := by
 funext j
 show (if r.here ≤ j ∧ j < lastR r + 1 then cellsF r right j else r.F j) = cellsF r right j
 by_cases h : r.here ≤ j ∧ j < lastR r + 1
 · rw [if_pos h]
 · rw [if_neg h]
   unfold cellsF
   rw [if_neg (fun e => h ⟨e.1, by omega⟩)]
def putC (W : World) (lb k : Nat) (c : Vz.Cl) : World := (((W.setCell ⟨lb, k * 4, none⟩ (.int .i32 c.g)).setCell ⟨lb, k * 4 + 1, none⟩ (.int .i64 c.a)).setCell ⟨lb, k * 4 + 2, none⟩ (.bool c.gd)).setCell ⟨lb, k * 4 + 3, none⟩ (.int .i64 c.m)
def OldW (B : Nat) (W : World) (ob cp n : Nat) (F : Nat → Vz.Cl) : Prop := W.ownsRow B 56 4 (.slice (some ⟨ob, 0, none⟩) n cp) n (cellsL F n)
theorem OldW.at_ {B : Nat} {W : World} {ob cp n : Nat} {F : Nat → Vz.Cl} (h : OldW B W ob cp n F) {k : Nat} (hk : k < n) : W.cell? ⟨ob, k * 4, none⟩ = some (.int .i32 (F k).g) ∧ W.cell? ⟨ob, k * 4 + 1, none⟩ = some (.int .i64 (F k).a) ∧ W.cell? ⟨ob, k * 4 + 2, none⟩ = some (.bool (F k).gd) ∧ W.cell? ⟨ob, k * 4 + 3, none⟩ = some (.int .i64 (F k).m) := by
 have hr := (RowC.of_own4 h).congr (g := Vz.flatC F) fun i hi => cellsL_getD _ _ _ hi
 refine ⟨?_, ?_, ?_, ?_⟩
 · rw [hr.cell (show k * 4 < n * 4 by omega), Nat.mul_comm k 4, Vz.flatC_0]
 · rw [hr.cell (show k * 4 + 1 < n * 4 by omega), Nat.mul_comm k 4, Vz.flatC_1]
 · rw [hr.cell (show k * 4 + 2 < n * 4 by omega), Nat.mul_comm k 4, Vz.flatC_2]
 · rw [hr.cell (show k * 4 + 3 < n * 4 by omega), Nat.mul_comm k 4, Vz.flatC_3]
theorem rf_cells_true (h : RfAt w rp lb cap sb r) (hm : r.may) : Calls Tryz.prog 98 #[.pointer (some ⟨rp, 0, none⟩), .bool true] w fun e w' => e = .returned (.tuple #[]) ∧ RfTo w w' rp lb sb (cellsR r true) := by
 obtain ⟨i0, hi, hz0, hz1, hz2⟩ := info_three infoCell
 have hn := hm.n
 have hl := hm.here_lt
 have hL := lastR_in hm
 have hR6 := hm.2.1
 have hC1 := hm.2.2.1
 have hrow := hm.2.2.2.2.1
 have HB0 : Hid (Below w.heap.size w w.drew) := (Below.refl _ _).drew
 have HER := Lib.hid (fun W (hb : Below w.heap.size w W) => rf_here (h.below hb) hm)
 obtain ⟨n, hnn⟩ : ∃ n, r.R * r.C = n := ⟨_, rfl⟩
 obtain ⟨p, hpp⟩ : ∃ p, (r.row + 1) * r.C = p := ⟨_, rfl⟩
 obtain ⟨z, hzz⟩ : ∃ z, p - 1 = z := ⟨_, rfl⟩
 rw [hnn, hpp] at hl hL
 rw [hnn] at hn
 have H := Lib.hid (fun W (hb : Below w.heap.size w W) => h.below hb)
 have HN := Lib.hid hnn
 have HLT := Lib.hid h.lt
 have HNE := Lib.hid (And.intro h.n1 (And.intro h.n2 h.n3))
 have e1 : IntKind.i64.wrap ((r.row : Int) + 1) = ((r.row + 1 : Nat) : Int) := by rw [wrap_in (by omega) (by omega)]; rfl
 have e2 : IntKind.i64.wrap (((r.row : Int) + 1) * (r.C : Int)) = (p : Int) := by
  rw [show ((r.row : Int) + 1) * (r.C : Int) = (((r.row + 1) * r.C : Nat) : Int) from (Int.natCast_mul _ _).symm, hpp, wrap_in (by omega) (by omega)]
 have e3 : IntKind.i64.wrap ((p : Int) - 1) = (z : Int) := by rw [wrap_in (by omega) (by omega)]; omega
 have hzn : z < n := by omega
 have HP0 : Hid (z = (r.row + 1) * r.C - 1) := by show _ = _; omega
 have HK0 : Hid (∀ W, RfAt W rp lb cap sb r → RfAt W rp lb cap sb (cellsK r true r.here)) := fun W h => by rw [cellsK_zero]; exact h
 have HCE := Lib.hid (cellsK_end r true)
 have HCO := Lib.hid (fun k => cellsK_on r true k)
 obtain ⟨f, hf⟩ : ∃ f, r.here = f := ⟨_, rfl⟩
 have HF := Lib.hid hf
 have hfz : f ≤ z := by rw [← hf]; omega
 have HG0 : Hid (f ≤ lastR r ∧ lastR r ≤ z) := by show _ ∧ _; rw [← hf]; omega
 rw [hf] at HER HK0 hl hL
 have HA := Lib.hid ((H.out w (Below.refl _ _)).at_ (k := f) (by rw [HN.out]; omega))
 obtain ⟨⟨y0, y1, y2, y3, y4, y5, y6, y7, y8, y9, y10, y11, y12⟩, _⟩ := (H.out w (Below.refl _ _)).cellsN (n := n) HN.out
 obtain ⟨⟨a0, a1, a2, a3⟩, _⟩ := (H.out w (Below.refl _ _)).at_ (k := f) (by rw [HN.out]; omega)
 have hCR : Hid (cellsR r true = if r.pr = true ∧ (r.F f).gd = true then r else { r with F := cellsF r true }) := by show _ = _; unfold cellsR; rw [hf]
 have HCF : Hid (∀ k, cellsF r true k = if f ≤ k ∧ k ≤ lastR r then (if true = true ∧ f < k then r.F (k - 1) else if true = false ∧ k < lastR r then r.F (k + 1) else Vz.Cl.blank) else r.F k) := fun k => by unfold cellsF; rw [hf]
 have HLR : Hid (lastR r = if r.pr = true then goesF r.F z r.C f else z) := by show _ = _; unfold lastR; rw [HP0.out, hf]
 have hlast : Hid (lastR r < n ∧ f < n) := ⟨hL.2.2, by omega⟩
 clear h hm hnn hpp hzz hf hl hL hrow hR6
 cases hp : r.pr with
 | false =>
   have HCR : Hid (cellsR r true = { r with F := cellsF r true }) := hCR.out.trans (if_neg (fun e => by rw [hp] at e; exact absurd e.1 (by decide)))
   obtain ⟨L, hLL⟩ : ∃ L, lastR r = L := ⟨_, rfl⟩
   have hLz : L = z := by rw [← hLL, HLR.out, if_neg (by rw [hp]; decide)]
   have HLL := Lib.hid hLL
   rw [← hLz] at e3
   have HPR : Hid (∀ W, Below w.heap.size w W → W.cell? ⟨rp, 8, none⟩ = some (.bool false)) := fun W hb => by have := (H.out W hb).cells.1.2.2.2.2.2.2.2.2.1; rw [hp] at this; exact this
   clear hLL hLz hCR HLR hp
   go_enter Tryz.func98, Tryz.ntmps98
   go_upto_region 0 with fail
   go_quiet (fail)
   have HB1 := Lib.hid (below_drewN (Below.refl w.heap.size w) nq)
   go_upto_region 2 with (go_at_call 47; refine (HER.out _ HB1.out).mono ?_; rintro e w2 ⟨rfl, hb2⟩; have HB2 := Lib.hid (Below.later HB1.out hb2 HB1.out.size); clear hb2 y0 y1 y2 y3 y4 y5 y6 y7 y8 y9 y10 y11 y12 a0 a1 a2 a3; obtain ⟨⟨y0, y1, y2, y3, y4, y5, y6, y7, y8, y9, y10, y11, y12⟩, _⟩ := (H.out _ HB2.out).cellsN (n := n) HN.out; obtain ⟨⟨a0, a1, a2, a3⟩, _⟩ := (H.out _ HB2.out).at_ (k := f) (by rw [HN.out]; have := hlast.out; omega))
   clear y8
   have y8 := HPR.out _ HB2.out
   go_upto_region 9 with fail
   have HNW : Hid (∀ (j : Nat) (u : Value), (cellsL r.F n)[j]? = some u → w2.cell? ((⟨lb, 0, none⟩ : Addr).add j) = some u) := by
    show ∀ (j : Nat) (u : Value), (cellsL r.F n)[j]? = some u → w2.cell? ((⟨lb, 0, none⟩ : Addr).add j) = some u
    have := (H.out _ HB2.out).news 0 n (by rw [HN.out]; omega)
    simpa using this
   have hz2b : w.heap.size ≤ w2.heap.size := HB2.out.size
   have hLn : L < n := by have := hlast.out; rw [HLL.out] at this; exact this.1
   have hfL : f ≤ L := by have := HG0.out; rw [HLL.out] at this; exact this.1
   go_upto_region 10 with (at_builtin; refine wpList_append_own_at _ rfl _ _ 54 rfl w.heap.size 56 i0 (.agg #[.int .i32 0, .int .i64 0, .bool false, .int .i64 0]) 4 32 Tryz.underlying54 hi hz0 hz1 hz2 rfl (by decide) (.slice none 0 0) 0 [] rfl (World.ownsRow_nil _ _ _ _) ⟨lb, 0, none⟩ n cap (cellsL r.F n) rfl (cellsL_len _ _) HNW.out (cellsL_one _ _) (by unfold maxLen; omega) (by omega) hz2b ?_; intro v3 w3 hown3 hgrow3 _ _; rw [Nat.zero_add, List.nil_append] at hown3; have HB3 := Lib.hid (HB2.out.grown hgrow3 HB2.out.size (fun j e => by cases e)); have HO3 := Lib.hid hown3; clear hown3 hgrow3)
   obtain ⟨n', hn'⟩ : ∃ n', n = n' + 1 := ⟨n - 1, by omega⟩
   have hown3 := HO3.out
   rw [hn'] at hown3
   obtain ⟨ob, cp, rfl⟩ := own_succ hown3
   rw [← hn'] at *
   clear hown3 y0 y1 y2 y3 y4 y5 y6 y7 y8 y9 y10 y11 y12 a0 a1 a2 a3
   have HOB : Hid (w.heap.size ≤ ob) := (HO3.out.lt ob rfl).1
   have HOL : Hid (OldW w.heap.size w3 ob cp n r.F) := HO3.out
   have HR3 := Lib.hid (HK0.out _ (H.out _ HB3.out))
   go_wp2_with fail
   go_loopw [8] (fun i wr => ∃ k : Nat, f ≤ k ∧ k ≤ L + 1 ∧ i = .int .i64 (k : Int) ∧ RfAt wr rp lb cap sb (cellsK r true k) ∧ OldW w.heap.size wr ob cp n r.F ∧ Keeps (fun x => x = lb) w wr) (fun i _ => L + 1 - (intOf i).toNat)
   case atStart => exact ⟨f, Nat.le_refl _, by omega, rfl, HR3.out, HOL.out, Keeps.of_below HB3.out⟩
   case round =>
    obtain ⟨k, hk1, hk2, rfl, hR, hO, hK⟩ := hrel
    have HRk := Lib.hid hR
    have HOk := Lib.hid hO
    have HKk := Lib.hid hK
    clear hR hO hK
    by_cases hlt : k ≤ L
    · have hkz : (k : Int) ≤ (L : Int) := by omega
      have hwk : IntKind.i64.wrap ((k : Int) + 1) = ((k + 1 : Nat) : Int) := by rw [wrap_in (by omega) (by omega)]; rfl
      have hkn : k < r.R * r.C := by rw [HN.out]; omega
      have hkm : (k : Int) < (n : Int) := by omega
      have HD : Hid (Below wr.heap.size wr wr.drew) := (Below.refl _ _).drew
      have HW : Hid (∀ W, Below wr.heap.size wr W → RfAt W rp lb cap sb (cellsK r true k) ∧ OldW w.heap.size W ob cp n r.F) := fun W hW => ⟨HRk.out.below hW, own_below HOk.out hW⟩
      have HPUT : Hid (∀ W c, Below wr.heap.size wr W → c = cellsF r true k → RfAt (putC W lb k c) rp lb cap sb (cellsK r true (k + 1)) ∧ OldW w.heap.size (putC W lb k c) ob cp n r.F ∧ Keeps (fun x => x = lb) w (putC W lb k c)) := fun W c hW hc => by
       have hp := (HW.out W hW).1.put k c
       have hlb := HLT.out.2.1
       refine ⟨hp.1.congr rfl rfl rfl (fun j _ => by rw [hc, HCO.out k (by rw [HF.out]; exact hk1)]) rfl, ?_, (HKk.out.trans (Keeps.of_below hW : Keeps (fun x => x = lb) wr W) (fun k e => .inl e)).trans hp.2 fun k e => .inl e⟩
       exact own_setR (own_setR (own_setR (own_setR (HW.out W hW).2 hlb _ _) hlb _ _) hlb _ _) hlb _ _
      have hck := HCF.out k
      rw [HLL.out, if_pos ⟨hk1, hlt⟩] at hck
      have HCK := Lib.hid hck
      clear hck
      have HPB : Hid (∀ W, Below wr.heap.size wr W → Vz.Cl.blank = cellsF r true k → RfAt (putC W lb k Vz.Cl.blank) rp lb cap sb (cellsK r true (k + 1)) ∧ OldW w.heap.size (putC W lb k Vz.Cl.blank) ob cp n r.F ∧ Keeps (fun x => x = lb) w (putC W lb k Vz.Cl.blank)) := fun W hW hc => HPUT.out W Vz.Cl.blank hW hc
      by_cases hfk : f < k
      · have hfkz : (f : Int) < (k : Int) := by omega
        obtain ⟨d, hd⟩ : ∃ d, k - 1 = d := ⟨_, rfl⟩
        have hwd : IntKind.i64.wrap ((k : Int) - 1) = (d : Int) := by rw [wrap_in (by omega) (by omega)]; omega
        have hdn : d < n := by omega
        have hdm : (d : Int) < (n : Int) := by omega
        have HC : Hid (r.F d = cellsF r true k) := by show _ = _; rw [HCK.out, if_pos ⟨by trivial, hfk⟩, hd]
        clear hd
        go_upto_region 14 with fail
        refine wp_region_noPanic ?_
        refine wp_region_k (S := fun W : World => Below wr.heap.size wr W) 11 (by kernel_rfl) (HD.out) (fun hHeld => ?_)
        refine kSK 0 hHeld ?_
        refine kSK 1 hHeld ?_
        refine kSK 2 hHeld ?_
        refine kTK (v := ?_) 3 [] hHeld ?y4 ?_
        case y4 => (intro W hSw; obtain ⟨⟨y0, y1, y2, y3, y4, y5, y6, y7, y8, y9, y10, y11, y12⟩, _⟩ := (HW.out _ hSw).1.cellsN (n := n) HN.out; obtain ⟨o0, o1, o2, o3⟩ := (HW.out _ hSw).2.at_ hdn; go_simp; try with_reducible rfl)
        refine kSK 4 hHeld ?_
        try refine kNK ?_
        refine kSK 5 hHeld ?_
        refine kSK 6 hHeld ?_
        refine kSK 7 hHeld ?_
        refine kSK 8 hHeld ?_
        refine kTK (v := ?_) 9 [] hHeld ?y10 ?_
        case y10 => (intro W hSw; obtain ⟨⟨y0, y1, y2, y3, y4, y5, y6, y7, y8, y9, y10, y11, y12⟩, _⟩ := (HW.out _ hSw).1.cellsN (n := n) HN.out; obtain ⟨o0, o1, o2, o3⟩ := (HW.out _ hSw).2.at_ hdn; go_simp; try with_reducible rfl)
        try refine kNK ?_
        refine kSK 10 hHeld ?_
        try refine kNK ?_
        refine kPK 11 fun KQ hKQ => ?_
        go_simp
        have HP := Lib.hid (HPUT.out _ _ hHeld HC.out)
        obtain ⟨⟨q0, q1, q2, q3⟩, fr⟩ := HRk.out.at_ (k := k) hkn
        have fr0 := fr (k * 4)
        have fr1 := fr (k * 4 + 1)
        have fr2 := fr (k * 4 + 2)
        have fr3 := fr (k * 4 + 3)
        go_simp
        refine hKQ.out _ _ ?_
        clear hKQ KQ
        try refine kNK ?_
        refine wpAnyK_done (by kernel_rfl) ?_ _
        refine NoPanic.normal ?_
        go_wp2_with fail
        exact ⟨⟨k + 1, by omega, by omega, rfl, HP.out.1, HP.out.2.1, HP.out.2.2⟩, by simp [intOf]; omega⟩
      · have hfkz : ¬ (f : Int) < (k : Int) := by omega
        have HC : Hid (Vz.Cl.blank = cellsF r true k) := by show _ = _; rw [HCK.out, if_neg (fun e => hfk e.2), if_neg (fun e => absurd e.1 (by decide))]
        go_upto_region 17 with fail
        refine wp_region_noPanic ?_
        refine wp_region_k (S := fun W : World => Below wr.heap.size wr W) 7 (by kernel_rfl) (HD.out) (fun hHeld => ?_)
        refine kSK 0 hHeld ?_
        refine kSK 1 hHeld ?_
        refine kSK 2 hHeld ?_
        refine kTK (v := ?_) 3 [] hHeld ?y4 ?_
        case y4 => (intro W hSw; obtain ⟨⟨y0, y1, y2, y3, y4, y5, y6, y7, y8, y9, y10, y11, y12⟩, _⟩ := (HW.out _ hSw).1.cellsN (n := n) HN.out; go_simp; try with_reducible rfl)
        refine kSK 4 hHeld ?_
        try refine kNK ?_
        refine kOK 5 fun KQ hKQ => ?_
        go_simp
        go_at_call 40
        refine (rf_blank _).mono ?_
        rintro e w5 ⟨rfl, hb5⟩
        have hs5 := Below.later hHeld hb5 hHeld.size
        clear hb5
        go_wp2_with fail
        refine hKQ.out _ _ (hs5) ?_
        clear hHeld hKQ KQ
        intro hHeld
        try refine kNK ?_
        clear hs5
        refine kSK 6 hHeld ?_
        try refine kNK ?_
        refine kPK 7 fun KQ hKQ => ?_
        go_simp
        have HP := Lib.hid (HPB.out _ hHeld HC.out)
        obtain ⟨⟨q0, q1, q2, q3⟩, fr⟩ := (HW.out _ hHeld).1.at_ (k := k) hkn
        have fr0 := fr (k * 4)
        have fr1 := fr (k * 4 + 1)
        have fr2 := fr (k * 4 + 2)
        have fr3 := fr (k * 4 + 3)
        go_simp
        refine hKQ.out _ _ ?_
        clear hKQ KQ
        try refine kNK ?_
        refine wpAnyK_done (by kernel_rfl) ?_ _
        refine NoPanic.normal ?_
        go_wp2_with fail
        exact ⟨⟨k + 1, by omega, by omega, rfl, HP.out.1, HP.out.2.1, HP.out.2.2⟩, by simp [intOf]; omega⟩
    · obtain rfl : k = L + 1 := by omega
      have HE : Hid (RfTo w wr rp lb sb (cellsR r true)) := by
       refine ⟨⟨lb, cap, sb, ?_, .inl rfl, .inl rfl⟩, HKk.out.mono fun x e => .inr (.inl e)⟩
       rw [HCR.out]
       have := HRk.out
       rw [← HLL.out] at this
       exact this.congr rfl rfl rfl (fun j _ => by rw [HCE.out]) rfl
      go_wp2_with fail
      go_end0
      exact ⟨rfl, HE.out⟩
 | true =>
   cases hg : (r.F f).gd with
   | true =>
     have HT : Hid (RfTo w w rp lb sb (cellsR r true)) := by
      show RfTo _ _ _ _ _ _
      rw [hCR.out, if_pos ⟨hp, hg⟩]
      exact RfTo.refl (H.out w (Below.refl _ _))
     have HPR : Hid (∀ W, Below w.heap.size w W → W.cell? ⟨rp, 8, none⟩ = some (.bool true)) := fun W hb => by have := (H.out W hb).cells.1.2.2.2.2.2.2.2.2.1; rw [hp] at this; exact this
     have HGD : Hid (∀ W, Below w.heap.size w W → W.cell? ⟨lb, f * 4 + 2, none⟩ = some (.bool true)) := fun W hb => by have := ((H.out W hb).at_ (k := f) (by rw [HN.out]; exact hlast.out.2)).1.2.2.1; rw [hg] at this; exact this
     have hfn : (f : Int) < (n : Int) := by omega
     clear hCR HLR hp hg
     go_enter Tryz.func98, Tryz.ntmps98
     go_upto_region 0 with fail
     go_quiet (fail)
     have HB1 := Lib.hid (below_drewN (Below.refl w.heap.size w) nq)
     go_upto_region 2 with (go_at_call 47; refine (HER.out _ HB1.out).mono ?_; rintro e w2 ⟨rfl, hb2⟩; have HB2 := Lib.hid (Below.later HB1.out hb2 HB1.out.size); clear hb2 y0 y1 y2 y3 y4 y5 y6 y7 y8 y9 y10 y11 y12 a0 a1 a2 a3; obtain ⟨⟨y0, y1, y2, y3, y4, y5, y6, y7, y8, y9, y10, y11, y12⟩, _⟩ := (H.out _ HB2.out).cellsN (n := n) HN.out; obtain ⟨⟨a0, a1, a2, a3⟩, _⟩ := (H.out _ HB2.out).at_ (k := f) (by rw [HN.out]; have := hlast.out; omega))
     clear y8 a2
     have y8 := HPR.out _ HB2.out
     have a2 := HGD.out _ HB2.out
     go_wp2_with fail
     exact bodyPost_ret (results_none rfl _ _ _) rfl ⟨rfl, HT.out.later HB2.out⟩
   | false =>
     have HCR : Hid (cellsR r true = { r with F := cellsF r true }) := hCR.out.trans (if_neg (fun e => by rw [hg] at e; exact absurd e.2 (by decide)))
     have HPR : Hid (∀ W, Below w.heap.size w W → W.cell? ⟨rp, 8, none⟩ = some (.bool true)) := fun W hb => by have := (H.out W hb).cells.1.2.2.2.2.2.2.2.2.1; rw [hp] at this; exact this
     have HGD : Hid (∀ W, Below w.heap.size w W → W.cell? ⟨lb, f * 4 + 2, none⟩ = some (.bool false)) := fun W hb => by have := ((H.out W hb).at_ (k := f) (by rw [HN.out]; exact hlast.out.2)).1.2.2.1; rw [hg] at this; exact this
     have hfn : (f : Int) < (n : Int) := by omega
     have HGO : Hid (lastR r = goesF r.F z r.C f) := HLR.out.trans (if_pos hp)
     have HCC : Hid (z ≤ r.C + f) := by
      show _ ≤ _
      have h1 := HP0.out
      have h2 := HF.out
      unfold Rf.here at h2
      rw [Nat.succ_mul] at h1
      omega
     clear hCR HLR hp hg
     go_enter Tryz.func98, Tryz.ntmps98
     go_upto_region 0 with fail
     go_quiet (fail)
     have HB1 := Lib.hid (below_drewN (Below.refl w.heap.size w) nq)
     go_upto_region 2 with (go_at_call 47; refine (HER.out _ HB1.out).mono ?_; rintro e w2 ⟨rfl, hb2⟩; have HB2 := Lib.hid (Below.later HB1.out hb2 HB1.out.size); clear hb2 y0 y1 y2 y3 y4 y5 y6 y7 y8 y9 y10 y11 y12 a0 a1 a2 a3; obtain ⟨⟨y0, y1, y2, y3, y4, y5, y6, y7, y8, y9, y10, y11, y12⟩, _⟩ := (H.out _ HB2.out).cellsN (n := n) HN.out; obtain ⟨⟨a0, a1, a2, a3⟩, _⟩ := (H.out _ HB2.out).at_ (k := f) (by rw [HN.out]; have := hlast.out; omega))
     clear y8 a2
     have y8 := HPR.out _ HB2.out
     have a2 := HGD.out _ HB2.out
     go_wp2_with fail
     go_loopw [6] (fun c wr => ∃ k m : Nat, f ≤ k ∧ k ≤ z ∧ c = .int .i64 (k : Int) ∧ w2 = wr ∧ Hid (lastR r = goesF r.F z m k) ∧ z ≤ m + k) (fun c _ => z - (intOf c).toNat)
     case atStart => exact ⟨f, r.C, Nat.le_refl _, hfz, rfl, rfl, HGO, HCC.out⟩
     case round =>
      obtain ⟨k, m, hkf, hkz', rfl, rfl, hgo, hmk⟩ := hrel
      have hwk : IntKind.i64.wrap ((k : Int) + 1) = ((k + 1 : Nat) : Int) := by rw [wrap_in (by omega) (by omega)]; rfl
      by_cases hc : k < z ∧ (r.F (k + 1)).gd = false
      · have hcz : (k : Int) < (z : Int) := by omega
        have hk1n : (k : Int) + 1 < (n : Int) := by omega
        have hk0 : (0 : Int) ≤ (k : Int) + 1 := by omega
        obtain ⟨m', hm'⟩ : ∃ m', m = m' + 1 := ⟨m - 1, by omega⟩
        have HG1 : Hid (lastR r = goesF r.F z m' (k + 1)) := hgo.out.trans (by rw [hm']; exact goesF_on _ _ _ _ hc)
        have b2 := ((H.out _ HB2.out).at_ (k := k + 1) (by rw [HN.out]; omega)).1.2.2.1
        rw [hc.2] at b2
        have hc1 := hc.1
        clear hgo hc
        go_wp2_with fail
        exact ⟨⟨k + 1, m', by omega, by omega, rfl, by simp, HG1, by omega⟩, by simp [intOf]; omega⟩
      · have HLL : Hid (lastR r = k) := hgo.out.trans (goesF_stop _ _ _ _ hc)
        obtain ⟨L, hLk⟩ : ∃ L, L = k := ⟨_, rfl⟩
        rw [← hLk] at HLL
        have hcase : (¬ (k : Int) < (z : Int)) ∨ ((k : Int) < (z : Int) ∧ (r.F (k + 1)).gd = true) := by
         by_cases h1 : k < z
         · refine .inr ⟨by omega, ?_⟩
           cases hq : (r.F (k + 1)).gd with
           | true => rfl
           | false => exact absurd ⟨h1, hq⟩ hc
         · exact .inl (by omega)
        clear hgo hc
        rw [← hLk] at hwk hkf hkz' hmk hcase ⊢
        clear hLk
        rcases hcase with h1 | ⟨h1, h2⟩
        case' inr =>
         have hk1n : (L : Int) + 1 < (n : Int) := by omega
         have hk0 : (0 : Int) ≤ (L : Int) + 1 := by omega
         have b2 := ((H.out _ HB2.out).at_ (k := L + 1) (by rw [HN.out]; omega)).1.2.2.1
         rw [h2] at b2
         clear h2
        all_goals (
         go_upto_region 9 with fail
         have HNW : Hid (∀ (j : Nat) (u : Value), (cellsL r.F n)[j]? = some u → w2.cell? ((⟨lb, 0, none⟩ : Addr).add j) = some u) := by
          show ∀ (j : Nat) (u : Value), (cellsL r.F n)[j]? = some u → w2.cell? ((⟨lb, 0, none⟩ : Addr).add j) = some u
          have := (H.out _ HB2.out).news 0 n (by rw [HN.out]; omega)
          simpa using this
         have hz2b : w.heap.size ≤ w2.heap.size := HB2.out.size
         have hLn : L < n := by have := hlast.out; rw [HLL.out] at this; exact this.1
         have hfL : f ≤ L := by have := HG0.out; rw [HLL.out] at this; exact this.1
         go_upto_region 10 with (at_builtin; refine wpList_append_own_at _ rfl _ _ 54 rfl w.heap.size 56 i0 (.agg #[.int .i32 0, .int .i64 0, .bool false, .int .i64 0]) 4 32 Tryz.underlying54 hi hz0 hz1 hz2 rfl (by decide) (.slice none 0 0) 0 [] rfl (World.ownsRow_nil _ _ _ _) ⟨lb, 0, none⟩ n cap (cellsL r.F n) rfl (cellsL_len _ _) HNW.out (cellsL_one _ _) (by unfold maxLen; omega) (by omega) hz2b ?_; intro v3 w3 hown3 hgrow3 _ _; rw [Nat.zero_add, List.nil_append] at hown3; have HB3 := Lib.hid (HB2.out.grown hgrow3 HB2.out.size (fun j e => by cases e)); have HO3 := Lib.hid hown3; clear hown3 hgrow3)
         obtain ⟨n', hn'⟩ : ∃ n', n = n' + 1 := ⟨n - 1, by omega⟩
         have hown3 := HO3.out
         rw [hn'] at hown3
         obtain ⟨ob, cp, rfl⟩ := own_succ hown3
         rw [← hn'] at *
         clear hown3 y0 y1 y2 y3 y4 y5 y6 y7 y8 y9 y10 y11 y12 a0 a1 a2 a3
         have HOB : Hid (w.heap.size ≤ ob) := (HO3.out.lt ob rfl).1
         have HOL : Hid (OldW w.heap.size w3 ob cp n r.F) := HO3.out
         have HR3 := Lib.hid (HK0.out _ (H.out _ HB3.out))
         go_wp2_with fail
         go_loopw [8] (fun i wr => ∃ k : Nat, f ≤ k ∧ k ≤ L + 1 ∧ i = .int .i64 (k : Int) ∧ RfAt wr rp lb cap sb (cellsK r true k) ∧ OldW w.heap.size wr ob cp n r.F ∧ Keeps (fun x => x = lb) w wr) (fun i _ => L + 1 - (intOf i).toNat)
         case atStart => exact ⟨f, Nat.le_refl _, by omega, rfl, HR3.out, HOL.out, Keeps.of_below HB3.out⟩
         case round =>
          obtain ⟨k, hk1, hk2, rfl, hR, hO, hK⟩ := hrel
          have HRk := Lib.hid hR
          have HOk := Lib.hid hO
          have HKk := Lib.hid hK
          clear hR hO hK
          by_cases hlt : k ≤ L
          · have hkz : (k : Int) ≤ (L : Int) := by omega
            have hwk : IntKind.i64.wrap ((k : Int) + 1) = ((k + 1 : Nat) : Int) := by rw [wrap_in (by omega) (by omega)]; rfl
            have hkn : k < r.R * r.C := by rw [HN.out]; omega
            have hkm : (k : Int) < (n : Int) := by omega
            have HD : Hid (Below wr.heap.size wr wr.drew) := (Below.refl _ _).drew
            have HW : Hid (∀ W, Below wr.heap.size wr W → RfAt W rp lb cap sb (cellsK r true k) ∧ OldW w.heap.size W ob cp n r.F) := fun W hW => ⟨HRk.out.below hW, own_below HOk.out hW⟩
            have HPUT : Hid (∀ W c, Below wr.heap.size wr W → c = cellsF r true k → RfAt (putC W lb k c) rp lb cap sb (cellsK r true (k + 1)) ∧ OldW w.heap.size (putC W lb k c) ob cp n r.F ∧ Keeps (fun x => x = lb) w (putC W lb k c)) := fun W c hW hc => by
             have hp := (HW.out W hW).1.put k c
             have hlb := HLT.out.2.1
             refine ⟨hp.1.congr rfl rfl rfl (fun j _ => by rw [hc, HCO.out k (by rw [HF.out]; exact hk1)]) rfl, ?_, (HKk.out.trans (Keeps.of_below hW : Keeps (fun x => x = lb) wr W) (fun k e => .inl e)).trans hp.2 fun k e => .inl e⟩
             exact own_setR (own_setR (own_setR (own_setR (HW.out W hW).2 hlb _ _) hlb _ _) hlb _ _) hlb _ _
            have hck := HCF.out k
            rw [HLL.out, if_pos ⟨hk1, hlt⟩] at hck
            have HCK := Lib.hid hck
            clear hck
            have HPB : Hid (∀ W, Below wr.heap.size wr W → Vz.Cl.blank = cellsF r true k → RfAt (putC W lb k Vz.Cl.blank) rp lb cap sb (cellsK r true (k + 1)) ∧ OldW w.heap.size (putC W lb k Vz.Cl.blank) ob cp n r.F ∧ Keeps (fun x => x = lb) w (putC W lb k Vz.Cl.blank)) := fun W hW hc => HPUT.out W Vz.Cl.blank hW hc
            by_cases hfk : f < k
            · have hfkz : (f : Int) < (k : Int) := by omega
              obtain ⟨d, hd⟩ : ∃ d, k - 1 = d := ⟨_, rfl⟩
              have hwd : IntKind.i64.wrap ((k : Int) - 1) = (d : Int) := by rw [wrap_in (by omega) (by omega)]; omega
              have hdn : d < n := by omega
              have hdm : (d : Int) < (n : Int) := by omega
              have HC : Hid (r.F d = cellsF r true k) := by show _ = _; rw [HCK.out, if_pos ⟨by trivial, hfk⟩, hd]
              clear hd
              go_upto_region 14 with fail
              refine wp_region_noPanic ?_
              refine wp_region_k (S := fun W : World => Below wr.heap.size wr W) 11 (by kernel_rfl) (HD.out) (fun hHeld => ?_)
              refine kSK 0 hHeld ?_
              refine kSK 1 hHeld ?_
              refine kSK 2 hHeld ?_
              refine kTK (v := ?_) 3 [] hHeld ?y4 ?_
              case y4 => (intro W hSw; obtain ⟨⟨y0, y1, y2, y3, y4, y5, y6, y7, y8, y9, y10, y11, y12⟩, _⟩ := (HW.out _ hSw).1.cellsN (n := n) HN.out; obtain ⟨o0, o1, o2, o3⟩ := (HW.out _ hSw).2.at_ hdn; go_simp; try with_reducible rfl)
              refine kSK 4 hHeld ?_
              try refine kNK ?_
              refine kSK 5 hHeld ?_
              refine kSK 6 hHeld ?_
              refine kSK 7 hHeld ?_
              refine kSK 8 hHeld ?_
              refine kTK (v := ?_) 9 [] hHeld ?y10 ?_
              case y10 => (intro W hSw; obtain ⟨⟨y0, y1, y2, y3, y4, y5, y6, y7, y8, y9, y10, y11, y12⟩, _⟩ := (HW.out _ hSw).1.cellsN (n := n) HN.out; obtain ⟨o0, o1, o2, o3⟩ := (HW.out _ hSw).2.at_ hdn; go_simp; try with_reducible rfl)
              try refine kNK ?_
              refine kSK 10 hHeld ?_
              try refine kNK ?_
              refine kPK 11 fun KQ hKQ => ?_
              go_simp
              have HP := Lib.hid (HPUT.out _ _ hHeld HC.out)
              obtain ⟨⟨q0, q1, q2, q3⟩, fr⟩ := HRk.out.at_ (k := k) hkn
              have fr0 := fr (k * 4)
              have fr1 := fr (k * 4 + 1)
              have fr2 := fr (k * 4 + 2)
              have fr3 := fr (k * 4 + 3)
              go_simp
              refine hKQ.out _ _ ?_
              clear hKQ KQ
              try refine kNK ?_
              refine wpAnyK_done (by kernel_rfl) ?_ _
              refine NoPanic.normal ?_
              go_wp2_with fail
              exact ⟨⟨k + 1, by omega, by omega, rfl, HP.out.1, HP.out.2.1, HP.out.2.2⟩, by simp [intOf]; omega⟩
            · have hfkz : ¬ (f : Int) < (k : Int) := by omega
              have HC : Hid (Vz.Cl.blank = cellsF r true k) := by show _ = _; rw [HCK.out, if_neg (fun e => hfk e.2), if_neg (fun e => absurd e.1 (by decide))]
              go_upto_region 17 with fail
              refine wp_region_noPanic ?_
              refine wp_region_k (S := fun W : World => Below wr.heap.size wr W) 7 (by kernel_rfl) (HD.out) (fun hHeld => ?_)
              refine kSK 0 hHeld ?_
              refine kSK 1 hHeld ?_
              refine kSK 2 hHeld ?_
              refine kTK (v := ?_) 3 [] hHeld ?y4 ?_
              case y4 => (intro W hSw; obtain ⟨⟨y0, y1, y2, y3, y4, y5, y6, y7, y8, y9, y10, y11, y12⟩, _⟩ := (HW.out _ hSw).1.cellsN (n := n) HN.out; go_simp; try with_reducible rfl)
              refine kSK 4 hHeld ?_
              try refine kNK ?_
              refine kOK 5 fun KQ hKQ => ?_
              go_simp
              go_at_call 40
              refine (rf_blank _).mono ?_
              rintro e w5 ⟨rfl, hb5⟩
              have hs5 := Below.later hHeld hb5 hHeld.size
              clear hb5
              go_wp2_with fail
              refine hKQ.out _ _ (hs5) ?_
              clear hHeld hKQ KQ
              intro hHeld
              try refine kNK ?_
              clear hs5
              refine kSK 6 hHeld ?_
              try refine kNK ?_
              refine kPK 7 fun KQ hKQ => ?_
              go_simp
              have HP := Lib.hid (HPB.out _ hHeld HC.out)
              obtain ⟨⟨q0, q1, q2, q3⟩, fr⟩ := (HW.out _ hHeld).1.at_ (k := k) hkn
              have fr0 := fr (k * 4)
              have fr1 := fr (k * 4 + 1)
              have fr2 := fr (k * 4 + 2)
              have fr3 := fr (k * 4 + 3)
              go_simp
              refine hKQ.out _ _ ?_
              clear hKQ KQ
              try refine kNK ?_
              refine wpAnyK_done (by kernel_rfl) ?_ _
              refine NoPanic.normal ?_
              go_wp2_with fail
              exact ⟨⟨k + 1, by omega, by omega, rfl, HP.out.1, HP.out.2.1, HP.out.2.2⟩, by simp [intOf]; omega⟩
          · obtain rfl : k = L + 1 := by omega
            have HE : Hid (RfTo w wr rp lb sb (cellsR r true)) := by
             refine ⟨⟨lb, cap, sb, ?_, .inl rfl, .inl rfl⟩, HKk.out.mono fun x e => .inr (.inl e)⟩
             rw [HCR.out]
             have := HRk.out
             rw [← HLL.out] at this
             exact this.congr rfl rfl rfl (fun j _ => by rw [HCE.out]) rfl
            go_wp2_with fail
            go_end0
            exact ⟨rfl, HE.out⟩)
theorem rf_cells_false (h : RfAt w rp lb cap sb r) (hm : r.may) : Calls Tryz.prog 98 #[.pointer (some ⟨rp, 0, none⟩), .bool false] w fun e w' => e = .returned (.tuple #[]) ∧ RfTo w w' rp lb sb (cellsR r false) := by
 obtain ⟨i0, hi, hz0, hz1, hz2⟩ := info_three infoCell
 have hn := hm.n
 have hl := hm.here_lt
 have hL := lastR_in hm
 have hR6 := hm.2.1
 have hC1 := hm.2.2.1
 have hrow := hm.2.2.2.2.1
 have HB0 : Hid (Below w.heap.size w w.drew) := (Below.refl _ _).drew
 have HER := Lib.hid (fun W (hb : Below w.heap.size w W) => rf_here (h.below hb) hm)
 obtain ⟨n, hnn⟩ : ∃ n, r.R * r.C = n := ⟨_, rfl⟩
 obtain ⟨p, hpp⟩ : ∃ p, (r.row + 1) * r.C = p := ⟨_, rfl⟩
 obtain ⟨z, hzz⟩ : ∃ z, p - 1 = z := ⟨_, rfl⟩
 rw [hnn, hpp] at hl hL
 rw [hnn] at hn
 have H := Lib.hid (fun W (hb : Below w.heap.size w W) => h.below hb)
 have HN := Lib.hid hnn
 have HLT := Lib.hid h.lt
 have HNE := Lib.hid (And.intro h.n1 (And.intro h.n2 h.n3))
 have e1 : IntKind.i64.wrap ((r.row : Int) + 1) = ((r.row + 1 : Nat) : Int) := by rw [wrap_in (by omega) (by omega)]; rfl
 have e2 : IntKind.i64.wrap (((r.row : Int) + 1) * (r.C : Int)) = (p : Int) := by
  rw [show ((r.row : Int) + 1) * (r.C : Int) = (((r.row + 1) * r.C : Nat) : Int) from (Int.natCast_mul _ _).symm, hpp, wrap_in (by omega) (by omega)]
 have e3 : IntKind.i64.wrap ((p : Int) - 1) = (z : Int) := by rw [wrap_in (by omega) (by omega)]; omega
 have hzn : z < n := by omega
 have HP0 : Hid (z = (r.row + 1) * r.C - 1) := by show _ = _; omega
 have HK0 : Hid (∀ W, RfAt W rp lb cap sb r → RfAt W rp lb cap sb (cellsK r false r.here)) := fun W h => by rw [cellsK_zero]; exact h
 have HCE := Lib.hid (cellsK_end r false)
 have HCO := Lib.hid (fun k => cellsK_on r false k)
 obtain ⟨f, hf⟩ : ∃ f, r.here = f := ⟨_, rfl⟩
 have HF := Lib.hid hf
 have hfz : f ≤ z := by rw [← hf]; omega
 have HG0 : Hid (f ≤ lastR r ∧ lastR r ≤ z) := by show _ ∧ _; rw [← hf]; omega
 rw [hf] at HER HK0 hl hL
 have HA := Lib.hid ((H.out w (Below.refl _ _)).at_ (k := f) (by rw [HN.out]; omega))
 obtain ⟨⟨y0, y1, y2, y3, y4, y5, y6, y7, y8, y9, y10, y11, y12⟩, _⟩ := (H.out w (Below.refl _ _)).cellsN (n := n) HN.out
 obtain ⟨⟨a0, a1, a2, a3⟩, _⟩ := (H.out w (Below.refl _ _)).at_ (k := f) (by rw [HN.out]; omega)
 have hCR : Hid (cellsR r false = if r.pr = true ∧ (r.F f).gd = true then r else { r with F := cellsF r false }) := by show _ = _; unfold cellsR; rw [hf]
 have HCF : Hid (∀ k, cellsF r false k = if f ≤ k ∧ k ≤ lastR r then (if false = true ∧ f < k then r.F (k - 1) else if false = false ∧ k < lastR r then r.F (k + 1) else Vz.Cl.blank) else r.F k) := fun k => by unfold cellsF; rw [hf]
 have HLR : Hid (lastR r = if r.pr = true then goesF r.F z r.C f else z) := by show _ = _; unfold lastR; rw [HP0.out, hf]
 have hlast : Hid (lastR r < n ∧ f < n) := ⟨hL.2.2, by omega⟩
 clear h hm hnn hpp hzz hf hl hL hrow hR6
 cases hp : r.pr with
 | false =>
   have HCR : Hid (cellsR r false = { r with F := cellsF r false }) := hCR.out.trans (if_neg (fun e => by rw [hp] at e; exact absurd e.1 (by decide)))
   obtain ⟨L, hLL⟩ : ∃ L, lastR r = L := ⟨_, rfl⟩
   have hLz : L = z := by rw [← hLL, HLR.out, if_neg (by rw [hp]; decide)]
   have HLL := Lib.hid hLL
   rw [← hLz] at e3
   have HPR : Hid (∀ W, Below w.heap.size w W → W.cell? ⟨rp, 8, none⟩ = some (.bool false)) := fun W hb => by have := (H.out W hb).cells.1.2.2.2.2.2.2.2.2.1; rw [hp] at this; exact this
   clear hLL hLz hCR HLR hp
   go_enter Tryz.func98, Tryz.ntmps98
   go_upto_region 0 with fail
   go_quiet (fail)
   have HB1 := Lib.hid (below_drewN (Below.refl w.heap.size w) nq)
   go_upto_region 2 with (go_at_call 47; refine (HER.out _ HB1.out).mono ?_; rintro e w2 ⟨rfl, hb2⟩; have HB2 := Lib.hid (Below.later HB1.out hb2 HB1.out.size); clear hb2 y0 y1 y2 y3 y4 y5 y6 y7 y8 y9 y10 y11 y12 a0 a1 a2 a3; obtain ⟨⟨y0, y1, y2, y3, y4, y5, y6, y7, y8, y9, y10, y11, y12⟩, _⟩ := (H.out _ HB2.out).cellsN (n := n) HN.out; obtain ⟨⟨a0, a1, a2, a3⟩, _⟩ := (H.out _ HB2.out).at_ (k := f) (by rw [HN.out]; have := hlast.out; omega))
   clear y8
   have y8 := HPR.out _ HB2.out
   go_upto_region 9 with fail
   have HNW : Hid (∀ (j : Nat) (u : Value), (cellsL r.F n)[j]? = some u → w2.cell? ((⟨lb, 0, none⟩ : Addr).add j) = some u) := by
    show ∀ (j : Nat) (u : Value), (cellsL r.F n)[j]? = some u → w2.cell? ((⟨lb, 0, none⟩ : Addr).add j) = some u
    have := (H.out _ HB2.out).news 0 n (by rw [HN.out]; omega)
    simpa using this
   have hz2b : w.heap.size ≤ w2.heap.size := HB2.out.size
   have hLn : L < n := by have := hlast.out; rw [HLL.out] at this; exact this.1
   have hfL : f ≤ L := by have := HG0.out; rw [HLL.out] at this; exact this.1
   go_upto_region 10 with (at_builtin; refine wpList_append_own_at _ rfl _ _ 54 rfl w.heap.size 56 i0 (.agg #[.int .i32 0, .int .i64 0, .bool false, .int .i64 0]) 4 32 Tryz.underlying54 hi hz0 hz1 hz2 rfl (by decide) (.slice none 0 0) 0 [] rfl (World.ownsRow_nil _ _ _ _) ⟨lb, 0, none⟩ n cap (cellsL r.F n) rfl (cellsL_len _ _) HNW.out (cellsL_one _ _) (by unfold maxLen; omega) (by omega) hz2b ?_; intro v3 w3 hown3 hgrow3 _ _; rw [Nat.zero_add, List.nil_append] at hown3; have HB3 := Lib.hid (HB2.out.grown hgrow3 HB2.out.size (fun j e => by cases e)); have HO3 := Lib.hid hown3; clear hown3 hgrow3)
   obtain ⟨n', hn'⟩ : ∃ n', n = n' + 1 := ⟨n - 1, by omega⟩
   have hown3 := HO3.out
   rw [hn'] at hown3
   obtain ⟨ob, cp, rfl⟩ := own_succ hown3
   rw [← hn'] at *
   clear hown3 y0 y1 y2 y3 y4 y5 y6 y7 y8 y9 y10 y11 y12 a0 a1 a2 a3
   have HOB : Hid (w.heap.size ≤ ob) := (HO3.out.lt ob rfl).1
   have HOL : Hid (OldW w.heap.size w3 ob cp n r.F) := HO3.out
   have HR3 := Lib.hid (HK0.out _ (H.out _ HB3.out))
   go_wp2_with fail
   go_loopw [8] (fun i wr => ∃ k : Nat, f ≤ k ∧ k ≤ L + 1 ∧ i = .int .i64 (k : Int) ∧ RfAt wr rp lb cap sb (cellsK r false k) ∧ OldW w.heap.size wr ob cp n r.F ∧ Keeps (fun x => x = lb) w wr) (fun i _ => L + 1 - (intOf i).toNat)
   case atStart => exact ⟨f, Nat.le_refl _, by omega, rfl, HR3.out, HOL.out, Keeps.of_below HB3.out⟩
   case round =>
    obtain ⟨k, hk1, hk2, rfl, hR, hO, hK⟩ := hrel
    have HRk := Lib.hid hR
    have HOk := Lib.hid hO
    have HKk := Lib.hid hK
    clear hR hO hK
    by_cases hlt : k ≤ L
    · have hkz : (k : Int) ≤ (L : Int) := by omega
      have hwk : IntKind.i64.wrap ((k : Int) + 1) = ((k + 1 : Nat) : Int) := by rw [wrap_in (by omega) (by omega)]; rfl
      have hkn : k < r.R * r.C := by rw [HN.out]; omega
      have hkm : (k : Int) < (n : Int) := by omega
      have HD : Hid (Below wr.heap.size wr wr.drew) := (Below.refl _ _).drew
      have HW : Hid (∀ W, Below wr.heap.size wr W → RfAt W rp lb cap sb (cellsK r false k) ∧ OldW w.heap.size W ob cp n r.F) := fun W hW => ⟨HRk.out.below hW, own_below HOk.out hW⟩
      have HPUT : Hid (∀ W c, Below wr.heap.size wr W → c = cellsF r false k → RfAt (putC W lb k c) rp lb cap sb (cellsK r false (k + 1)) ∧ OldW w.heap.size (putC W lb k c) ob cp n r.F ∧ Keeps (fun x => x = lb) w (putC W lb k c)) := fun W c hW hc => by
       have hp := (HW.out W hW).1.put k c
       have hlb := HLT.out.2.1
       refine ⟨hp.1.congr rfl rfl rfl (fun j _ => by rw [hc, HCO.out k (by rw [HF.out]; exact hk1)]) rfl, ?_, (HKk.out.trans (Keeps.of_below hW : Keeps (fun x => x = lb) wr W) (fun k e => .inl e)).trans hp.2 fun k e => .inl e⟩
       exact own_setR (own_setR (own_setR (own_setR (HW.out W hW).2 hlb _ _) hlb _ _) hlb _ _) hlb _ _
      have hck := HCF.out k
      rw [HLL.out, if_pos ⟨hk1, hlt⟩] at hck
      have HCK := Lib.hid hck
      clear hck
      have HPB : Hid (∀ W, Below wr.heap.size wr W → Vz.Cl.blank = cellsF r false k → RfAt (putC W lb k Vz.Cl.blank) rp lb cap sb (cellsK r false (k + 1)) ∧ OldW w.heap.size (putC W lb k Vz.Cl.blank) ob cp n r.F ∧ Keeps (fun x => x = lb) w (putC W lb k Vz.Cl.blank)) := fun W hW hc => HPUT.out W Vz.Cl.blank hW hc
      by_cases hfk : k < L
      · have hfkz : (k : Int) < (L : Int) := by omega
        have hdn : k + 1 < n := by omega
        have hdm : (k : Int) + 1 < (n : Int) := by omega
        have hk0 : (0 : Int) ≤ (k : Int) + 1 := by omega
        have HC : Hid (r.F (k + 1) = cellsF r false k) := by show _ = _; rw [HCK.out, if_neg (fun e => absurd e.1 (by decide)), if_pos ⟨by trivial, hfk⟩]
        go_upto_region 16 with fail
        refine wp_region_noPanic ?_
        refine wp_region_k (S := fun W : World => Below wr.heap.size wr W) 11 (by kernel_rfl) (HD.out) (fun hHeld => ?_)
        refine kSK 0 hHeld ?_
        refine kSK 1 hHeld ?_
        refine kSK 2 hHeld ?_
        refine kTK (v := ?_) 3 [] hHeld ?y4 ?_
        case y4 => (intro W hSw; obtain ⟨⟨y0, y1, y2, y3, y4, y5, y6, y7, y8, y9, y10, y11, y12⟩, _⟩ := (HW.out _ hSw).1.cellsN (n := n) HN.out; obtain ⟨o0, o1, o2, o3⟩ := (HW.out _ hSw).2.at_ hdn; go_simp; try with_reducible rfl)
        refine kSK 4 hHeld ?_
        try refine kNK ?_
        refine kSK 5 hHeld ?_
        refine kSK 6 hHeld ?_
        refine kSK 7 hHeld ?_
        refine kSK 8 hHeld ?_
        refine kTK (v := ?_) 9 [] hHeld ?y10 ?_
        case y10 => (intro W hSw; obtain ⟨⟨y0, y1, y2, y3, y4, y5, y6, y7, y8, y9, y10, y11, y12⟩, _⟩ := (HW.out _ hSw).1.cellsN (n := n) HN.out; obtain ⟨o0, o1, o2, o3⟩ := (HW.out _ hSw).2.at_ hdn; go_simp; try with_reducible rfl)
        try refine kNK ?_
        refine kSK 10 hHeld ?_
        try refine kNK ?_
        refine kPK 11 fun KQ hKQ => ?_
        go_simp
        have HP := Lib.hid (HPUT.out _ _ hHeld HC.out)
        obtain ⟨⟨q0, q1, q2, q3⟩, fr⟩ := HRk.out.at_ (k := k) hkn
        have fr0 := fr (k * 4)
        have fr1 := fr (k * 4 + 1)
        have fr2 := fr (k * 4 + 2)
        have fr3 := fr (k * 4 + 3)
        go_simp
        refine hKQ.out _ _ ?_
        clear hKQ KQ
        try refine kNK ?_
        refine wpAnyK_done (by kernel_rfl) ?_ _
        refine NoPanic.normal ?_
        go_wp2_with fail
        exact ⟨⟨k + 1, by omega, by omega, rfl, HP.out.1, HP.out.2.1, HP.out.2.2⟩, by simp [intOf]; omega⟩
      · have hfkz : ¬ (k : Int) < (L : Int) := by omega
        have HC : Hid (Vz.Cl.blank = cellsF r false k) := by show _ = _; rw [HCK.out, if_neg (fun e => absurd e.1 (by decide)), if_neg (fun e => hfk e.2)]
        go_upto_region 17 with fail
        refine wp_region_noPanic ?_
        refine wp_region_k (S := fun W : World => Below wr.heap.size wr W) 7 (by kernel_rfl) (HD.out) (fun hHeld => ?_)
        refine kSK 0 hHeld ?_
        refine kSK 1 hHeld ?_
        refine kSK 2 hHeld ?_
        refine kTK (v := ?_) 3 [] hHeld ?y4 ?_
        case y4 => (intro W hSw; obtain ⟨⟨y0, y1, y2, y3, y4, y5, y6, y7, y8, y9, y10, y11, y12⟩, _⟩ := (HW.out _ hSw).1.cellsN (n := n) HN.out; go_simp; try with_reducible rfl)
        refine kSK 4 hHeld ?_
        try refine kNK ?_
        refine kOK 5 fun KQ hKQ => ?_
        go_simp
        go_at_call 40
        refine (rf_blank _).mono ?_
        rintro e w5 ⟨rfl, hb5⟩
        have hs5 := Below.later hHeld hb5 hHeld.size
        clear hb5
        go_wp2_with fail
        refine hKQ.out _ _ (hs5) ?_
        clear hHeld hKQ KQ
        intro hHeld
        try refine kNK ?_
        clear hs5
        refine kSK 6 hHeld ?_
        try refine kNK ?_
        refine kPK 7 fun KQ hKQ => ?_
        go_simp
        have HP := Lib.hid (HPB.out _ hHeld HC.out)
        obtain ⟨⟨q0, q1, q2, q3⟩, fr⟩ := (HW.out _ hHeld).1.at_ (k := k) hkn
        have fr0 := fr (k * 4)
        have fr1 := fr (k * 4 + 1)
        have fr2 := fr (k * 4 + 2)
        have fr3 := fr (k * 4 + 3)
        go_simp
        refine hKQ.out _ _ ?_
        clear hKQ KQ
        try refine kNK ?_
        refine wpAnyK_done (by kernel_rfl) ?_ _
        refine NoPanic.normal ?_
        go_wp2_with fail
        exact ⟨⟨k + 1, by omega, by omega, rfl, HP.out.1, HP.out.2.1, HP.out.2.2⟩, by simp [intOf]; omega⟩
    · obtain rfl : k = L + 1 := by omega
      have HE : Hid (RfTo w wr rp lb sb (cellsR r false)) := by
       refine ⟨⟨lb, cap, sb, ?_, .inl rfl, .inl rfl⟩, HKk.out.mono fun x e => .inr (.inl e)⟩
       rw [HCR.out]
       have := HRk.out
       rw [← HLL.out] at this
       exact this.congr rfl rfl rfl (fun j _ => by rw [HCE.out]) rfl
      go_wp2_with fail
      go_end0
      exact ⟨rfl, HE.out⟩
 | true =>
   cases hg : (r.F f).gd with
   | true =>
     have HT : Hid (RfTo w w rp lb sb (cellsR r false)) := by
      show RfTo _ _ _ _ _ _
      rw [hCR.out, if_pos ⟨hp, hg⟩]
      exact RfTo.refl (H.out w (Below.refl _ _))
     have HPR : Hid (∀ W, Below w.heap.size w W → W.cell? ⟨rp, 8, none⟩ = some (.bool true)) := fun W hb => by have := (H.out W hb).cells.1.2.2.2.2.2.2.2.2.1; rw [hp] at this; exact this
     have HGD : Hid (∀ W, Below w.heap.size w W → W.cell? ⟨lb, f * 4 + 2, none⟩ = some (.bool true)) := fun W hb => by have := ((H.out W hb).at_ (k := f) (by rw [HN.out]; exact hlast.out.2)).1.2.2.1; rw [hg] at this; exact this
     have hfn : (f : Int) < (n : Int) := by omega
     clear hCR HLR hp hg
     go_enter Tryz.func98, Tryz.ntmps98
     go_upto_region 0 with fail
     go_quiet (fail)
     have HB1 := Lib.hid (below_drewN (Below.refl w.heap.size w) nq)
     go_upto_region 2 with (go_at_call 47; refine (HER.out _ HB1.out).mono ?_; rintro e w2 ⟨rfl, hb2⟩; have HB2 := Lib.hid (Below.later HB1.out hb2 HB1.out.size); clear hb2 y0 y1 y2 y3 y4 y5 y6 y7 y8 y9 y10 y11 y12 a0 a1 a2 a3; obtain ⟨⟨y0, y1, y2, y3, y4, y5, y6, y7, y8, y9, y10, y11, y12⟩, _⟩ := (H.out _ HB2.out).cellsN (n := n) HN.out; obtain ⟨⟨a0, a1, a2, a3⟩, _⟩ := (H.out _ HB2.out).at_ (k := f) (by rw [HN.out]; have := hlast.out; omega))
     clear y8 a2
     have y8 := HPR.out _ HB2.out
     have a2 := HGD.out _ HB2.out
     go_wp2_with fail
     exact bodyPost_ret (results_none rfl _ _ _) rfl ⟨rfl, HT.out.later HB2.out⟩
   | false =>
     have HCR : Hid (cellsR r false = { r with F := cellsF r false }) := hCR.out.trans (if_neg (fun e => by rw [hg] at e; exact absurd e.2 (by decide)))
     have HPR : Hid (∀ W, Below w.heap.size w W → W.cell? ⟨rp, 8, none⟩ = some (.bool true)) := fun W hb => by have := (H.out W hb).cells.1.2.2.2.2.2.2.2.2.1; rw [hp] at this; exact this
     have HGD : Hid (∀ W, Below w.heap.size w W → W.cell? ⟨lb, f * 4 + 2, none⟩ = some (.bool false)) := fun W hb => by have := ((H.out W hb).at_ (k := f) (by rw [HN.out]; exact hlast.out.2)).1.2.2.1; rw [hg] at this; exact this
     have hfn : (f : Int) < (n : Int) := by omega
     have HGO : Hid (lastR r = goesF r.F z r.C f) := HLR.out.trans (if_pos hp)
     have HCC : Hid (z ≤ r.C + f) := by
      show _ ≤ _
      have h1 := HP0.out
      have h2 := HF.out
      unfold Rf.here at h2
      rw [Nat.succ_mul] at h1
      omega
     clear hCR HLR hp hg
     go_enter Tryz.func98, Tryz.ntmps98
     go_upto_region 0 with fail
     go_quiet (fail)
     have HB1 := Lib.hid (below_drewN (Below.refl w.heap.size w) nq)
     go_upto_region 2 with (go_at_call 47; refine (HER.out _ HB1.out).mono ?_; rintro e w2 ⟨rfl, hb2⟩; have HB2 := Lib.hid (Below.later HB1.out hb2 HB1.out.size); clear hb2 y0 y1 y2 y3 y4 y5 y6 y7 y8 y9 y10 y11 y12 a0 a1 a2 a3; obtain ⟨⟨y0, y1, y2, y3, y4, y5, y6, y7, y8, y9, y10, y11, y12⟩, _⟩ := (H.out _ HB2.out).cellsN (n := n) HN.out; obtain ⟨⟨a0, a1, a2, a3⟩, _⟩ := (H.out _ HB2.out).at_ (k := f) (by rw [HN.out]; have := hlast.out; omega))
     clear y8 a2
     have y8 := HPR.out _ HB2.out
     have a2 := HGD.out _ HB2.out
     go_wp2_with fail
     go_loopw [6] (fun c wr => ∃ k m : Nat, f ≤ k ∧ k ≤ z ∧ c = .int .i64 (k : Int) ∧ w2 = wr ∧ Hid (lastR r = goesF r.F z m k) ∧ z ≤ m + k) (fun c _ => z - (intOf c).toNat)
     case atStart => exact ⟨f, r.C, Nat.le_refl _, hfz, rfl, rfl, HGO, HCC.out⟩
     case round =>
      obtain ⟨k, m, hkf, hkz', rfl, rfl, hgo, hmk⟩ := hrel
      have hwk : IntKind.i64.wrap ((k : Int) + 1) = ((k + 1 : Nat) : Int) := by rw [wrap_in (by omega) (by omega)]; rfl
      by_cases hc : k < z ∧ (r.F (k + 1)).gd = false
      · have hcz : (k : Int) < (z : Int) := by omega
        have hk1n : (k : Int) + 1 < (n : Int) := by omega
        have hk0 : (0 : Int) ≤ (k : Int) + 1 := by omega
        obtain ⟨m', hm'⟩ : ∃ m', m = m' + 1 := ⟨m - 1, by omega⟩
        have HG1 : Hid (lastR r = goesF r.F z m' (k + 1)) := hgo.out.trans (by rw [hm']; exact goesF_on _ _ _ _ hc)
        have b2 := ((H.out _ HB2.out).at_ (k := k + 1) (by rw [HN.out]; omega)).1.2.2.1
        rw [hc.2] at b2
        have hc1 := hc.1
        clear hgo hc
        go_wp2_with fail
        exact ⟨⟨k + 1, m', by omega, by omega, rfl, by simp, HG1, by omega⟩, by simp [intOf]; omega⟩
      · have HLL : Hid (lastR r = k) := hgo.out.trans (goesF_stop _ _ _ _ hc)
        obtain ⟨L, hLk⟩ : ∃ L, L = k := ⟨_, rfl⟩
        rw [← hLk] at HLL
        have hcase : (¬ (k : Int) < (z : Int)) ∨ ((k : Int) < (z : Int) ∧ (r.F (k + 1)).gd = true) := by
         by_cases h1 : k < z
         · refine .inr ⟨by omega, ?_⟩
           cases hq : (r.F (k + 1)).gd with
           | true => rfl
           | false => exact absurd ⟨h1, hq⟩ hc
         · exact .inl (by omega)
        clear hgo hc
        rw [← hLk] at hwk hkf hkz' hmk hcase ⊢
        clear hLk
        rcases hcase with h1 | ⟨h1, h2⟩
        case' inr =>
         have hk1n : (L : Int) + 1 < (n : Int) := by omega
         have hk0 : (0 : Int) ≤ (L : Int) + 1 := by omega
         have b2 := ((H.out _ HB2.out).at_ (k := L + 1) (by rw [HN.out]; omega)).1.2.2.1
         rw [h2] at b2
         clear h2
        all_goals (
         go_upto_region 9 with fail
         have HNW : Hid (∀ (j : Nat) (u : Value), (cellsL r.F n)[j]? = some u → w2.cell? ((⟨lb, 0, none⟩ : Addr).add j) = some u) := by
          show ∀ (j : Nat) (u : Value), (cellsL r.F n)[j]? = some u → w2.cell? ((⟨lb, 0, none⟩ : Addr).add j) = some u
          have := (H.out _ HB2.out).news 0 n (by rw [HN.out]; omega)
          simpa using this
         have hz2b : w.heap.size ≤ w2.heap.size := HB2.out.size
         have hLn : L < n := by have := hlast.out; rw [HLL.out] at this; exact this.1
         have hfL : f ≤ L := by have := HG0.out; rw [HLL.out] at this; exact this.1
         go_upto_region 10 with (at_builtin; refine wpList_append_own_at _ rfl _ _ 54 rfl w.heap.size 56 i0 (.agg #[.int .i32 0, .int .i64 0, .bool false, .int .i64 0]) 4 32 Tryz.underlying54 hi hz0 hz1 hz2 rfl (by decide) (.slice none 0 0) 0 [] rfl (World.ownsRow_nil _ _ _ _) ⟨lb, 0, none⟩ n cap (cellsL r.F n) rfl (cellsL_len _ _) HNW.out (cellsL_one _ _) (by unfold maxLen; omega) (by omega) hz2b ?_; intro v3 w3 hown3 hgrow3 _ _; rw [Nat.zero_add, List.nil_append] at hown3; have HB3 := Lib.hid (HB2.out.grown hgrow3 HB2.out.size (fun j e => by cases e)); have HO3 := Lib.hid hown3; clear hown3 hgrow3)
         obtain ⟨n', hn'⟩ : ∃ n', n = n' + 1 := ⟨n - 1, by omega⟩
         have hown3 := HO3.out
         rw [hn'] at hown3
         obtain ⟨ob, cp, rfl⟩ := own_succ hown3
         rw [← hn'] at *
         clear hown3 y0 y1 y2 y3 y4 y5 y6 y7 y8 y9 y10 y11 y12 a0 a1 a2 a3
         have HOB : Hid (w.heap.size ≤ ob) := (HO3.out.lt ob rfl).1
         have HOL : Hid (OldW w.heap.size w3 ob cp n r.F) := HO3.out
         have HR3 := Lib.hid (HK0.out _ (H.out _ HB3.out))
         go_wp2_with fail
         go_loopw [8] (fun i wr => ∃ k : Nat, f ≤ k ∧ k ≤ L + 1 ∧ i = .int .i64 (k : Int) ∧ RfAt wr rp lb cap sb (cellsK r false k) ∧ OldW w.heap.size wr ob cp n r.F ∧ Keeps (fun x => x = lb) w wr) (fun i _ => L + 1 - (intOf i).toNat)
         case atStart => exact ⟨f, Nat.le_refl _, by omega, rfl, HR3.out, HOL.out, Keeps.of_below HB3.out⟩
         case round =>
          obtain ⟨k, hk1, hk2, rfl, hR, hO, hK⟩ := hrel
          have HRk := Lib.hid hR
          have HOk := Lib.hid hO
          have HKk := Lib.hid hK
          clear hR hO hK
          by_cases hlt : k ≤ L
          · have hkz : (k : Int) ≤ (L : Int) := by omega
            have hwk : IntKind.i64.wrap ((k : Int) + 1) = ((k + 1 : Nat) : Int) := by rw [wrap_in (by omega) (by omega)]; rfl
            have hkn : k < r.R * r.C := by rw [HN.out]; omega
            have hkm : (k : Int) < (n : Int) := by omega
            have HD : Hid (Below wr.heap.size wr wr.drew) := (Below.refl _ _).drew
            have HW : Hid (∀ W, Below wr.heap.size wr W → RfAt W rp lb cap sb (cellsK r false k) ∧ OldW w.heap.size W ob cp n r.F) := fun W hW => ⟨HRk.out.below hW, own_below HOk.out hW⟩
            have HPUT : Hid (∀ W c, Below wr.heap.size wr W → c = cellsF r false k → RfAt (putC W lb k c) rp lb cap sb (cellsK r false (k + 1)) ∧ OldW w.heap.size (putC W lb k c) ob cp n r.F ∧ Keeps (fun x => x = lb) w (putC W lb k c)) := fun W c hW hc => by
             have hp := (HW.out W hW).1.put k c
             have hlb := HLT.out.2.1
             refine ⟨hp.1.congr rfl rfl rfl (fun j _ => by rw [hc, HCO.out k (by rw [HF.out]; exact hk1)]) rfl, ?_, (HKk.out.trans (Keeps.of_below hW : Keeps (fun x => x = lb) wr W) (fun k e => .inl e)).trans hp.2 fun k e => .inl e⟩
             exact own_setR (own_setR (own_setR (own_setR (HW.out W hW).2 hlb _ _) hlb _ _) hlb _ _) hlb _ _
            have hck := HCF.out k
            rw [HLL.out, if_pos ⟨hk1, hlt⟩] at hck
            have HCK := Lib.hid hck
            clear hck
            have HPB : Hid (∀ W, Below wr.heap.size wr W → Vz.Cl.blank = cellsF r false k → RfAt (putC W lb k Vz.Cl.blank) rp lb cap sb (cellsK r false (k + 1)) ∧ OldW w.heap.size (putC W lb k Vz.Cl.blank) ob cp n r.F ∧ Keeps (fun x => x = lb) w (putC W lb k Vz.Cl.blank)) := fun W hW hc => HPUT.out W Vz.Cl.blank hW hc
            by_cases hfk : k < L
            · have hfkz : (k : Int) < (L : Int) := by omega
              have hdn : k + 1 < n := by omega
              have hdm : (k : Int) + 1 < (n : Int) := by omega
              have hk0 : (0 : Int) ≤ (k : Int) + 1 := by omega
              have HC : Hid (r.F (k + 1) = cellsF r false k) := by show _ = _; rw [HCK.out, if_neg (fun e => absurd e.1 (by decide)), if_pos ⟨by trivial, hfk⟩]
              go_upto_region 16 with fail
              refine wp_region_noPanic ?_
              refine wp_region_k (S := fun W : World => Below wr.heap.size wr W) 11 (by kernel_rfl) (HD.out) (fun hHeld => ?_)
              refine kSK 0 hHeld ?_
              refine kSK 1 hHeld ?_
              refine kSK 2 hHeld ?_
              refine kTK (v := ?_) 3 [] hHeld ?y4 ?_
              case y4 => (intro W hSw; obtain ⟨⟨y0, y1, y2, y3, y4, y5, y6, y7, y8, y9, y10, y11, y12⟩, _⟩ := (HW.out _ hSw).1.cellsN (n := n) HN.out; obtain ⟨o0, o1, o2, o3⟩ := (HW.out _ hSw).2.at_ hdn; go_simp; try with_reducible rfl)
              refine kSK 4 hHeld ?_
              try refine kNK ?_
              refine kSK 5 hHeld ?_
              refine kSK 6 hHeld ?_
              refine kSK 7 hHeld ?_
              refine kSK 8 hHeld ?_
              refine kTK (v := ?_) 9 [] hHeld ?y10 ?_
              case y10 => (intro W hSw; obtain ⟨⟨y0, y1, y2, y3, y4, y5, y6, y7, y8, y9, y10, y11, y12⟩, _⟩ := (HW.out _ hSw).1.cellsN (n := n) HN.out; obtain ⟨o0, o1, o2, o3⟩ := (HW.out _ hSw).2.at_ hdn; go_simp; try with_reducible rfl)
              try refine kNK ?_
              refine kSK 10 hHeld ?_
              try refine kNK ?_
              refine kPK 11 fun KQ hKQ => ?_
              go_simp
              have HP := Lib.hid (HPUT.out _ _ hHeld HC.out)
              obtain ⟨⟨q0, q1, q2, q3⟩, fr⟩ := HRk.out.at_ (k := k) hkn
              have fr0 := fr (k * 4)
              have fr1 := fr (k * 4 + 1)
              have fr2 := fr (k * 4 + 2)
              have fr3 := fr (k * 4 + 3)
              go_simp
              refine hKQ.out _ _ ?_
              clear hKQ KQ
              try refine kNK ?_
              refine wpAnyK_done (by kernel_rfl) ?_ _
              refine NoPanic.normal ?_
              go_wp2_with fail
              exact ⟨⟨k + 1, by omega, by omega, rfl, HP.out.1, HP.out.2.1, HP.out.2.2⟩, by simp [intOf]; omega⟩
            · have hfkz : ¬ (k : Int) < (L : Int) := by omega
              have HC : Hid (Vz.Cl.blank = cellsF r false k) := by show _ = _; rw [HCK.out, if_neg (fun e => absurd e.1 (by decide)), if_neg (fun e => hfk e.2)]
              go_upto_region 17 with fail
              refine wp_region_noPanic ?_
              refine wp_region_k (S := fun W : World => Below wr.heap.size wr W) 7 (by kernel_rfl) (HD.out) (fun hHeld => ?_)
              refine kSK 0 hHeld ?_
              refine kSK 1 hHeld ?_
              refine kSK 2 hHeld ?_
              refine kTK (v := ?_) 3 [] hHeld ?y4 ?_
              case y4 => (intro W hSw; obtain ⟨⟨y0, y1, y2, y3, y4, y5, y6, y7, y8, y9, y10, y11, y12⟩, _⟩ := (HW.out _ hSw).1.cellsN (n := n) HN.out; go_simp; try with_reducible rfl)
              refine kSK 4 hHeld ?_
              try refine kNK ?_
              refine kOK 5 fun KQ hKQ => ?_
              go_simp
              go_at_call 40
              refine (rf_blank _).mono ?_
              rintro e w5 ⟨rfl, hb5⟩
              have hs5 := Below.later hHeld hb5 hHeld.size
              clear hb5
              go_wp2_with fail
              refine hKQ.out _ _ (hs5) ?_
              clear hHeld hKQ KQ
              intro hHeld
              try refine kNK ?_
              clear hs5
              refine kSK 6 hHeld ?_
              try refine kNK ?_
              refine kPK 7 fun KQ hKQ => ?_
              go_simp
              have HP := Lib.hid (HPB.out _ hHeld HC.out)
              obtain ⟨⟨q0, q1, q2, q3⟩, fr⟩ := (HW.out _ hHeld).1.at_ (k := k) hkn
              have fr0 := fr (k * 4)
              have fr1 := fr (k * 4 + 1)
              have fr2 := fr (k * 4 + 2)
              have fr3 := fr (k * 4 + 3)
              go_simp
              refine hKQ.out _ _ ?_
              clear hKQ KQ
              try refine kNK ?_
              refine wpAnyK_done (by kernel_rfl) ?_ _
              refine NoPanic.normal ?_
              go_wp2_with fail
              exact ⟨⟨k + 1, by omega, by omega, rfl, HP.out.1, HP.out.2.1, HP.out.2.2⟩, by simp [intOf]; omega⟩
          · obtain rfl : k = L + 1 := by omega
            have HE : Hid (RfTo w wr rp lb sb (cellsR r false)) := by
             refine ⟨⟨lb, cap, sb, ?_, .inl rfl, .inl rfl⟩, HKk.out.mono fun x e => .inr (.inl e)⟩
             rw [HCR.out]
             have := HRk.out
             rw [← HLL.out] at this
             exact this.congr rfl rfl rfl (fun j _ => by rw [HCE.out]) rfl
            go_wp2_with fail
            go_end0
            exact ⟨rfl, HE.out⟩)
theorem rf_cells (h : RfAt w rp lb cap sb r) (hm : r.may) (right : Bool) : Calls Tryz.prog 98 #[.pointer (some ⟨rp, 0, none⟩), .bool right] w fun e w' => e = .returned (.tuple #[]) ∧ RfTo w w' rp lb sb (cellsR r right) := by
 cases right with
 | true => exact rf_cells_true h hm
 | false => exact rf_cells_false h hm
end
end
end Go.Proofs.YtncgigapgklhcaaGreatDoor
