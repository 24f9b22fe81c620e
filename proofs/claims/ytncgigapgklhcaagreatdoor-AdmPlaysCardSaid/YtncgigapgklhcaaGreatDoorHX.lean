import Derived.Test.YtncgigapgklhcaaGreatDoorHT
import Derived.Defers
import Derived.Test.YtncgigapgklhcaaGreatDoorHW
import Derived.Laws.OwnMore
import Derived.Test.YtncgigapgklhcaaGreatDoorHR
import Derived.Maps.AppendAt
import Derived.Test.YtncgigapgklhcaaGreatDoorHS

set_option maxRecDepth 100000
set_option maxHeartbeats 16000000
namespace Go.Proofs.YtncgigapgklhcaaGreatDoor
open Go.RowKit
set_option linter.unusedSimpArgs false
set_option linter.unusedVariables false
/- Walks: an ADM-3A's rest (deferred): the cursor rests on no guarded cell. -/
section
attribute [local go_sem] alloc_drewN setCell_drewN World.cell?_alloc_some frozen_alloc_some size_f0 size_f1
def restS (S : Vz.Sr) (pr back : Bool) : Vz.Sr := if pr = true ∧ (atD S.D S.pl.at_).gd = true then freeS S (if back = true then -1 else 1) else S
theorem restA_eq (A : Ad) (b : Bool) : restA A b = { A with S := restS A.S A.pr b } := by
 unfold restA restS
 split <;> rfl
theorem adm_rest_d {w : World} {tp sp qp : Nat} {gd pr : Bool} {attr : Int} {V : Value} {F : Nat → Prop} {S : Vz.Sr} (h : Adm w tp sp qp gd pr attr V F S) (bp : Nat) (back : Bool) (hbp : w.heap[bp]? = some (.cells #[.bool back] 4 (0, 0))) (u : FrameMode) : CallsD Tryz.prog 52 #[.pointer (some ⟨tp, 0, none⟩), .pointer (some ⟨bp, 0, none⟩)] u w fun e u' w' => u' = u ∧ (e = .returned (.tuple #[]) ∧ ScrTo w w' sp F (restS S pr back)) := by
 have HA := Lib.hid (fun W (hb : Below w.heap.size w W) => h.below hb)
 obtain ⟨t0, t1, t2, t3, _⟩ := h.cells
 cases pr
 · have HT := Lib.hid (ScrTo.refl h.scr)
   have HE : Hid (restS S false back = S) := if_neg (fun e => Bool.noConfusion e.1)
   rw [HE.out]
   clear h HE
   go_enter_d Tryz.func52, Tryz.ntmps52
   go_wp2_with fail
   refine bodyPost_ret (results_none rfl _ _ _) rfl ⟨rfl, HT.out⟩
 · have HCU := Lib.hid (scr_cursor sp F S w h.scr)
   have HAT := Lib.hid (fun W (hb : Below w.heap.size w W) => scr_at sp F S S.pl.at_ W (h.below hb).scr h.scr.here.1)
   have HBP := Lib.hid hbp
   have HE : Hid (restS S true back = if (atD S.D S.pl.at_).gd = true then freeS S (if back = true then -1 else 1) else S) := by
    show restS S true back = _
    unfold restS
    simp
   rw [HE.out]
   have HFR := Lib.hid (fun W (hb : Below w.heap.size w W) => scr_free sp F S back W (h.below hb).scr)
   clear h HE hbp
   generalize (if back = true then (-1 : Int) else 1) = n at *
   generalize hx : atD S.D S.pl.at_ = x at *
   clear hx
   go_enter_d Tryz.func52, Tryz.ntmps52
   go_upto_region 2 with (go_at_call 14; refine HCU.out.mono ?_; rintro e w1 ⟨rfl, hb1⟩; have HB1 := Lib.hid hb1; clear hb1)
   have HB2 : Hid (Below w.heap.size w (w1.alloc (.cells #[.int .i64 S.pl.at_.row, .int .i64 S.pl.at_.col] 36)).drew) := (HB1.out.alloc HB1.out.size _).drew
   have HX : Hid ((w1.alloc (.cells #[.int .i64 S.pl.at_.row, .int .i64 S.pl.at_.col] 36)).drew.heap[w1.heap.size]? = some (.cells #[.int .i64 S.pl.at_.row, .int .i64 S.pl.at_.col] 36 (0, 0))) := heap_alloc_new w1 _
   refine wp_region_noPanic ?_
   refine wp_region_k (S := fun W : World => Below w.heap.size w W ∧ W.heap[w1.heap.size]? = some (.cells #[.int .i64 S.pl.at_.row, .int .i64 S.pl.at_.col] 36 (0, 0))) 5 (by kernel_rfl) (⟨HB2.out, HX.out⟩) (fun hHeld => ?_)
   refine kSK 0 hHeld ?_
   refine kSK 1 hHeld ?_
   refine kSK 2 hHeld ?_
   refine kTK (v := ?_) 3 [] hHeld ?y4 ?_
   case y4 => (intro W hSw; obtain ⟨y0, _⟩ := (HA.out _ hSw.1).cells; obtain ⟨p0, p1, _⟩ := row2 hSw.2; go_simp; try with_reducible rfl)
   refine kTK (v := ?_) 4 [] hHeld ?y5 ?_
   case y5 => (intro W hSw; obtain ⟨y0, _⟩ := (HA.out _ hSw.1).cells; obtain ⟨p0, p1, _⟩ := row2 hSw.2; go_simp; try with_reducible rfl)
   try refine kNK ?_
   refine wpAnyK_ready (rs := [5, 9]) (by kernel_rfl) (by simp) ?_
   refine AllReadyK.free rfl (by kernel_rfl) (fun KQ hKQ => ?_) (AllReadyK.cons rfl (fun KQ hKQ => ?_) AllReadyK.nil)
   focus
    go_simp
    go_at_call 25
    refine (HAT.out _ hHeld.1).mono ?_
    rintro e w2 ⟨rfl, hb2⟩
    have HB3 := Lib.hid (Below.later hHeld.1 hb2 hHeld.1.size)
    have HB23 := Lib.hid hb2
    first | (have hl := row4 ((hb2.block _ (block_lt HC9.out)).trans HC9.out); revert hl; rintro ⟨l0, l1, l2, l3, n0, n1, n2, n3⟩) | skip
    clear hb2
    go_wp2_with fail
    refine hKQ.out _ _ ?_
    clear hKQ KQ
    try refine kNK ?_
    refine kBK 6 ?_
    refine kBK 7 ?_
    refine kBK 8 ?_
    try refine kNK ?_
    refine kPK 9 fun KQ hKQ => ?_
    go_simp
    have HC9 : Hid (((w1.alloc (.cells #[.int .i64 S.pl.at_.row, .int .i64 S.pl.at_.col] 36)).drew.alloc (.cells #[.int .i32 0, .int .i64 0, .bool false, .int .i64 0] 56)).heap[w1.heap.size + 1]? = some (.cells #[.int .i32 0, .int .i64 0, .bool false, .int .i64 0] 56 (0, 0))) := by
     have := heap_alloc_new (w1.alloc (.cells #[.int .i64 S.pl.at_.row, .int .i64 S.pl.at_.col] 36)).drew (.cells #[.int .i32 0, .int .i64 0, .bool false, .int .i64 0] 56)
     rwa [show (w1.alloc (.cells #[.int .i64 S.pl.at_.row, .int .i64 S.pl.at_.col] 36)).drew.heap.size = w1.heap.size + 1 from World.size_alloc _ _] at this
    refine hKQ.out _ _ ?_
    clear hKQ KQ
    try refine kNK ?_
    refine kPK 10 fun KQ hKQ => ?_
    go_simp
    refine hKQ.out _ _ ?_
    clear hKQ KQ
    try refine kNK ?_
    refine kBK 11 ?_
    try refine kNK ?_
    refine wpAnyK_done (by kernel_rfl) ?_ _
    refine NoPanic.normal ?_
   rotate_left 1
   focus
    go_simp
    have HC9 : Hid (((w1.alloc (.cells #[.int .i64 S.pl.at_.row, .int .i64 S.pl.at_.col] 36)).drew.alloc (.cells #[.int .i32 0, .int .i64 0, .bool false, .int .i64 0] 56)).heap[w1.heap.size + 1]? = some (.cells #[.int .i32 0, .int .i64 0, .bool false, .int .i64 0] 56 (0, 0))) := by
     have := heap_alloc_new (w1.alloc (.cells #[.int .i64 S.pl.at_.row, .int .i64 S.pl.at_.col] 36)).drew (.cells #[.int .i32 0, .int .i64 0, .bool false, .int .i64 0] 56)
     rwa [show (w1.alloc (.cells #[.int .i64 S.pl.at_.row, .int .i64 S.pl.at_.col] 36)).drew.heap.size = w1.heap.size + 1 from World.size_alloc _ _] at this
    refine hKQ.out _ _ (⟨hHeld.1.alloc hHeld.1.size _, (Below.heap_alloc _ _ _ (block_lt hHeld.2)).trans hHeld.2⟩) ?_
    clear hHeld hKQ KQ
    intro hHeld
    try refine kNK ?_
    refine kPK 5 fun KQ hKQ => ?_
    go_simp
    go_at_call 25
    refine (HAT.out _ hHeld.1).mono ?_
    rintro e w2 ⟨rfl, hb2⟩
    have HB3 := Lib.hid (Below.later hHeld.1 hb2 hHeld.1.size)
    have HB23 := Lib.hid hb2
    first | (have hl := row4 ((hb2.block _ (block_lt HC9.out)).trans HC9.out); revert hl; rintro ⟨l0, l1, l2, l3, n0, n1, n2, n3⟩) | skip
    clear hb2
    go_wp2_with fail
    refine hKQ.out _ _ ?_
    clear hKQ KQ
    try refine kNK ?_
    refine kBK 6 ?_
    refine kBK 7 ?_
    refine kBK 8 ?_
    try refine kNK ?_
    refine kPK 10 fun KQ hKQ => ?_
    go_simp
    refine hKQ.out _ _ ?_
    clear hKQ KQ
    try refine kNK ?_
    refine kBK 11 ?_
    try refine kNK ?_
    refine wpAnyK_done (by kernel_rfl) ?_ _
    refine NoPanic.normal ?_
   rotate_left 1
   · have HB4 : Hid (Below w.heap.size w (w2.alloc (.cells #[.int .i32 x.g, .int .i64 x.a, .bool x.gd, .int .i64 x.m] 56))) := HB3.out.alloc HB3.out.size _
     have HCC : Hid ((w2.alloc (.cells #[.int .i32 x.g, .int .i64 x.a, .bool x.gd, .int .i64 x.m] 56)).heap[w2.heap.size]? = some (.cells #[.int .i32 x.g, .int .i64 x.a, .bool x.gd, .int .i64 x.m] 56 (0, 0))) := heap_alloc_new _ _
     clear HB23 HX HB2
     generalize w2.alloc (.cells #[.int .i32 x.g, .int .i64 x.a, .bool x.gd, .int .i64 x.m] 56) = W4 at *
     generalize w2.heap.size = cb at *
     obtain ⟨k0, k1, k2, k3, _⟩ := row4 HCC.out
     cases hg : x.gd
     · go_wp2_with fail
       all_goals (
        go_end0
        exact ⟨rfl, ScrTo.after HB4.out (ScrTo.refl (HA.out _ HB4.out).scr)⟩)
     · go_upto_region 4 with fail
       have HB5 := Lib.hid HB4.out.drew
       refine wp_region_noPanic ?_
       refine wp_region_k (S := fun W : World => Below w.heap.size w W) 7 (by kernel_rfl) (HB5.out) (fun hHeld => ?_)
       refine kSK 0 hHeld ?_
       refine kSK 1 hHeld ?_
       refine kSK 2 hHeld ?_
       refine kTK (v := ?_) 3 [] hHeld ?y4 ?_
       case y4 => (intro W hSw; obtain ⟨y0, _⟩ := (HA.out _ hSw).cells; have z0 := cell_row ((hSw.block _ (block_lt HBP.out)).trans HBP.out) 0; go_simp; try with_reducible rfl)
       refine kSK 4 hHeld ?_
       try refine kNK ?_
       refine kSK 5 hHeld ?_
       refine kTK (v := ?_) 6 [] hHeld ?y7 ?_
       case y7 => (intro W hSw; obtain ⟨y0, _⟩ := (HA.out _ hSw).cells; have z0 := cell_row ((hSw.block _ (block_lt HBP.out)).trans HBP.out) 0; go_simp; try with_reducible rfl)
       try refine kNK ?_
       refine kPK 7 fun KQ hKQ => ?_
       go_simp
       go_at_call 76
       refine (HFR.out _ HB5.out).mono ?_
       rintro e w6 ⟨rfl, ht⟩
       have HT := Lib.hid ht
       clear ht
       go_wp2_with fail
       refine hKQ.out _ _ ?_
       clear hKQ KQ
       try refine kNK ?_
       refine wpAnyK_done (by kernel_rfl) ?_ _
       refine NoPanic.normal ?_
       go_wp2_with fail
       all_goals (
        go_end0
        exact ⟨rfl, ScrTo.after HB5.out HT.out⟩)
   · have hz := HB1.out.size
     have HB4 : Hid (Below w.heap.size w ((((w2.setCell ⟨w1.heap.size + 1, 0, none⟩ (.int .i32 x.g)).setCell ⟨w1.heap.size + 1, 1, none⟩ (.int .i64 x.a)).setCell ⟨w1.heap.size + 1, 2, none⟩ (.bool x.gd)).setCell ⟨w1.heap.size + 1, 3, none⟩ (.int .i64 x.m))) := Below.set4 HB3.out (by omega) _ _ _ _
     have HCC : Hid (((((w2.setCell ⟨w1.heap.size + 1, 0, none⟩ (.int .i32 x.g)).setCell ⟨w1.heap.size + 1, 1, none⟩ (.int .i64 x.a)).setCell ⟨w1.heap.size + 1, 2, none⟩ (.bool x.gd)).setCell ⟨w1.heap.size + 1, 3, none⟩ (.int .i64 x.m)).heap[w1.heap.size + 1]? = some (.cells #[.int .i32 x.g, .int .i64 x.a, .bool x.gd, .int .i64 x.m] 56 (0, 0))) := set_four ((HB23.out.block _ (block_lt HC9.out)).trans HC9.out) _ _ _ _
     clear hz l0 l1 l2 l3 n0 n1 n2 n3 HC9
     clear HB23 HX HB2
     generalize ((((w2.setCell ⟨w1.heap.size + 1, 0, none⟩ (.int .i32 x.g)).setCell ⟨w1.heap.size + 1, 1, none⟩ (.int .i64 x.a)).setCell ⟨w1.heap.size + 1, 2, none⟩ (.bool x.gd)).setCell ⟨w1.heap.size + 1, 3, none⟩ (.int .i64 x.m)) = W4 at *
     generalize w1.heap.size + 1 = cb at *
     obtain ⟨k0, k1, k2, k3, _⟩ := row4 HCC.out
     cases hg : x.gd
     · go_wp2_with fail
       all_goals (
        go_end0
        exact ⟨rfl, ScrTo.after HB4.out (ScrTo.refl (HA.out _ HB4.out).scr)⟩)
     · go_upto_region 4 with fail
       have HB5 := Lib.hid HB4.out.drew
       refine wp_region_noPanic ?_
       refine wp_region_k (S := fun W : World => Below w.heap.size w W) 7 (by kernel_rfl) (HB5.out) (fun hHeld => ?_)
       refine kSK 0 hHeld ?_
       refine kSK 1 hHeld ?_
       refine kSK 2 hHeld ?_
       refine kTK (v := ?_) 3 [] hHeld ?y4 ?_
       case y4 => (intro W hSw; obtain ⟨y0, _⟩ := (HA.out _ hSw).cells; have z0 := cell_row ((hSw.block _ (block_lt HBP.out)).trans HBP.out) 0; go_simp; try with_reducible rfl)
       refine kSK 4 hHeld ?_
       try refine kNK ?_
       refine kSK 5 hHeld ?_
       refine kTK (v := ?_) 6 [] hHeld ?y7 ?_
       case y7 => (intro W hSw; obtain ⟨y0, _⟩ := (HA.out _ hSw).cells; have z0 := cell_row ((hSw.block _ (block_lt HBP.out)).trans HBP.out) 0; go_simp; try with_reducible rfl)
       try refine kNK ?_
       refine kPK 7 fun KQ hKQ => ?_
       go_simp
       go_at_call 76
       refine (HFR.out _ HB5.out).mono ?_
       rintro e w6 ⟨rfl, ht⟩
       have HT := Lib.hid ht
       clear ht
       go_wp2_with fail
       refine hKQ.out _ _ ?_
       clear hKQ KQ
       try refine kNK ?_
       refine wpAnyK_done (by kernel_rfl) ?_ _
       refine NoPanic.normal ?_
       go_wp2_with fail
       all_goals (
        go_end0
        exact ⟨rfl, ScrTo.after HB5.out HT.out⟩)
theorem rest_last {w w2 w3 : World} {tp sp qp : Nat} {FT : Nat → Prop} {A1 : Ad} {back : Bool} (hlt : ∀ k, FT k → k < w.heap.size) (hT : TermTo (w.alloc (.cells #[.bool false] 4)) w2 tp sp qp FT A1) (hk3 : Keeps (fun k => k = w.heap.size) w2 w3) (hc3 : w3.heap[w.heap.size]? = some (.cells #[.bool back] 4 (0, 0))) (u : FrameMode) :
 CallsD Tryz.prog 52 #[.pointer (some ⟨tp, 0, none⟩), .pointer (some ⟨w.heap.size, 0, none⟩)] u w3 fun e u' w' => u' = u ∧ (e = .returned (.tuple #[]) ∧ TermTo w w' tp sp qp FT (restA A1 back)) := by
 obtain ⟨⟨F', h2, hsub⟩, hK⟩ := hT
 have hbp : ∀ k, F' k → k ≠ w.heap.size := fun k hk e => by
  rcases hsub k hk with h | h
  · have := hlt k h
    omega
  · rw [World.size_alloc] at h
    omega
 have hbl : ¬ (0 = w.heap.size) := fun e => by
  have h1 := h2.blk.1
  obtain ⟨lb, fr, F, V, hA, hF⟩ := h2
  obtain ⟨t, f, hb⟩ := h1
  have hx := hK.block w.heap.size (by simp) (fun hf => by have := hlt _ hf; omega)
  rw [heap_alloc_new] at hx
  rw [e] at hb
  rw [hx] at hb
  injection hb with hb
  injection hb with hb
  simp [cellB] at hb
 obtain ⟨lb, fr, F, V, h3, hF3⟩ := h2.keeps hk3 hbp hbl
 refine (adm_rest_d h3.adm w.heap.size back hc3 u).mono ?_
 rintro e u' w' ⟨h, h', ht⟩
 refine ⟨h, h', ?_⟩
 rw [restA_eq]
 refine TermTo.link (fun k hk => ?_) ?_ (Term.scrTo h3 hF3 ht)
 · rcases hsub k hk with h | h
   · exact .inl h
   · rw [World.size_alloc] at h
     exact .inr (by omega)
 · have hk1 : Keeps FT w w2 := (Keeps.of_below (below1 w _)).trans hK fun k hk => .inl hk
   exact ⟨hk3.os.trans hk1.os, hk3.tape.trans hk1.tape, hk3.output.trans hk1.output, Nat.le_trans hk1.size hk3.size, fun k hk hn => (hk3.block k (Nat.lt_of_lt_of_le hk hk1.size) (fun e => by omega)).trans (hk1.block k hk hn)⟩
theorem back_cell {w w2 : World} {tp sp qp : Nat} {FT : Nat → Prop} {A1 : Ad} (hlt : ∀ k, FT k → k < w.heap.size) (hT : TermTo (w.alloc (.cells #[.bool false] 4)) w2 tp sp qp FT A1) : w2.heap[w.heap.size]? = some (.cells #[.bool false] 4 (0, 0)) :=
 (hT.2.block w.heap.size (by simp) (fun hf => by have := hlt _ hf; omega)).trans (heap_alloc_new w _)
theorem own_value {W : World} {base : Nat} {e : TypeId} {size n : Nat} {V : Value} {xs : List Value} (h : W.ownsRow base e size V n xs) : ∃ a c, V = .slice a n c := by
 rcases h.2 with ⟨rfl, rfl⟩ | ⟨g, cap, cur, rfl, _⟩
 · exact ⟨_, _, rfl⟩
 · exact ⟨_, _, rfl⟩
theorem take_ground {w : World} {tp sp qp lb fr : Nat} {F FT : Nat → Prop} {V : Value} {A : Ad} (h : TermAt w tp sp qp lb fr F V A) (hF : ∀ k, FT k ↔ footT tp qp lb F V k) (b : Nat) (hb : b ≠ 27) (hs : A.seq.length = 0) : Calls Tryz.prog 32 #[.pointer (some ⟨tp, 0, none⟩), .int .u8 b] w fun e w' => e = .returned (.tuple #[]) ∧ TermTo w w' tp sp qp FT (restA (groundA A b).1 (groundA A b).2) := by
 have hlt : ∀ k, FT k → k < w.heap.size := fun k hk => h.lt ((hF k).1 hk)
 have HL := Lib.hid hlt
 have hb1 := below1 w (.cells #[.bool false] 4)
 have HG := Lib.hid (adm_ground (h.below hb1) hF b)
 obtain ⟨a0, c0, rfl⟩ := own_value h.own
 obtain ⟨t0, t1, t2, t3, t4, t5, _⟩ := row6 (h.below hb1).box
 rw [hs] at t5
 have eb : ((b : Int) == 27) = false := by simp; omega
 clear h hF hlt hb1 hb hs
 generalize groundA A b = r at *
 obtain ⟨A1, back⟩ := r
 simp only at HG ⊢
 go_enter_defers Tryz.func32, Tryz.ntmps32
 go_wp2_with (go_at_call 53; refine HG.out.mono ?_; rintro e w2 ⟨rfl, ht⟩; have HX := Lib.hid (back_cell HL.out ht); have k0 := cell_row HX.out 0; have kf := frozen_row HX.out 0; have HT := Lib.hid ht; clear ht)
 trace_state
 refine leaves_cons (f := 52) (args := #[.pointer (some ⟨tp, 0, none⟩), .pointer (some ⟨w.heap.size, 0, none⟩)]) (by simp) (by simp [go_sem]) ?_
 refine (rest_last HL.out HT.out ((Keeps.refl (fun k => k = w.heap.size) w2).setCell' (p := ⟨w.heap.size, 0, none⟩) rfl _) (heap_set_same HX.out 0 (.bool back)) .returning).mono ?_
 rintro e u' w'' ⟨rfl, rfl, h⟩
 exact ⟨_, results_none rfl _ _ _, rfl, h⟩
end
section
attribute [local go_sem] alloc_drewN setCell_drewN World.cell?_alloc_some frozen_alloc_some size_f0 size_f1
theorem u8_of {b n : UInt8} (h : ((b.toNat : Int) == (n.toNat : Int)) = true) : b = n := by
 have h : (b.toNat : Int) = (n.toNat : Int) := by simpa using h
 exact UInt8.toNat_inj.1 (by omega)
theorem bytesV_snoc (l : List UInt8) (b : UInt8) : bytesV l ++ [.int .u8 b.toNat] = bytesV (l ++ [b]) := by simp [bytesV]
section
variable {w w5 : World} {tp sp qp lb fr : Nat} {F FT : Nat → Prop} {V V' : Value} {A : Ad} {o : Obj}
theorem grown_keeps (h : TermAt w tp sp qp lb fr F V A) (hg : (w.alloc o).grownBy w5 V.ownBlock) (u : Value) : Keeps (fun k => k = tp ∨ footV V k) w (w5.setCell ⟨tp, 5, none⟩ u) := by
 have hs := hg.size
 rw [World.size_alloc] at hs
 refine ⟨hg.os, hg.tape, hg.output, by rw [World.size_setCell]; omega, fun k hk hn => ?_⟩
 refine (heap_setCell_other _ _ _ _ (show k ≠ tp from fun e => hn (.inl e))).trans ((hg.block k (by rw [World.size_alloc]; omega) (fun e => hn (.inr e.symm))).trans (Below.heap_alloc w _ _ hk))
theorem grown_box (h : TermAt w tp sp qp lb fr F V A) (hg : (w.alloc o).grownBy w5 V.ownBlock) : w5.heap[tp]? = some (.cells (termB sp qp A.gd A.pr A.attr V) 87 (0, 0)) :=
 (hg.block tp (by rw [World.size_alloc]; exact Nat.lt_succ_of_lt (block_lt h.box)) (fun e => (h.nv tp e.symm).2.1 rfl)).trans ((Below.heap_alloc w _ _ (block_lt h.box)).trans h.box)
theorem Term.more (h : TermAt w tp sp qp lb fr F V A) (hF : ∀ k, FT k ↔ footT tp qp lb F V k) (hg : (w.alloc o).grownBy w5 V.ownBlock) {b : UInt8} (hown : w5.ownsRow 0 5 1 V' (A.seq.length + 1) (bytesV A.seq ++ [.int .u8 b.toNat])) (hat : V'.ownBlock = V.ownBlock ∨ V'.ownBlock = some (w.alloc o).heap.size) (hok : okSeq (A.seq ++ [b])) : TermTo w (w5.setCell ⟨tp, 5, none⟩ V') tp sp qp FT { A with seq := A.seq ++ [b] } := by
 have hne : ∀ k, V'.ownBlock = some k → k ≠ tp := fun k hk => by
  rcases hat with e | e
  · exact (h.nv k (e.symm.trans hk)).2.1
  · have := block_lt h.box
    rw [hk] at e
    injection e with e
    rw [World.size_alloc] at e
    omega
 refine Term.boxed (gd := A.gd) (pr := A.pr) (attr := A.attr) h hF (heap_set_same (grown_box h hg) 5 V') ?_ hok (fun k hk => ?_) (grown_keeps h hg V')
 · rw [List.length_append, ← bytesV_snoc]
   exact own_kept hown fun k hk => heap_setCell_other _ _ _ _ (show k ≠ tp from hne k hk)
 · rcases hat with e | e
   · exact .inl (e.symm.trans hk)
   · unfold footV at hk
     rw [hk] at e
     injection e with e
     rw [World.size_alloc] at e
     exact .inr (by omega)
theorem Term.gone (h : TermAt w tp sp qp lb fr F V A) (hF : ∀ k, FT k ↔ footT tp qp lb F V k) (hg : (w.alloc o).grownBy w5 V.ownBlock) : TermTo w (w5.setCell ⟨tp, 5, none⟩ (.slice none 0 0)) tp sp qp FT { A with seq := [] } :=
 Term.boxed (gd := A.gd) (pr := A.pr) (attr := A.attr) h hF (heap_set_same (grown_box h hg) 5 (.slice none 0 0)) (World.ownsRow_nil _ _ _ _) (.inl rfl) (fun k hk => by cases hk) (grown_keeps h hg _)
end
theorem take_escape {w : World} {tp sp qp lb fr : Nat} {F FT : Nat → Prop} {V : Value} {A : Ad} (h : TermAt w tp sp qp lb fr F V A) (hF : ∀ k, FT k ↔ footT tp qp lb F V k)  : Calls Tryz.prog 32 #[.pointer (some ⟨tp, 0, none⟩), .int .u8 27] w fun e w' => e = .returned (.tuple #[]) ∧ TermTo w w' tp sp qp FT (restA { A with seq := [27] } false) := by
 have hlt : ∀ k, FT k → k < w.heap.size := fun k hk => h.lt ((hF k).1 hk)
 have HL := Lib.hid hlt
 have hb1 := below1 w (.cells #[.bool false] 4)
 have H1 := Lib.hid (h.below hb1)
 have HF := Lib.hid hF
 obtain ⟨t0, t1, t2, t3, t4, t5, f2, f3, f4, f5⟩ := row6 (h.below hb1).box
 clear h hF hlt hb1
 go_enter_defers Tryz.func32, Tryz.ntmps32
 go_wp2_with fail
 have HT : Hid (TermTo (w.alloc (.cells #[.bool false] 4)) (((w.alloc (.cells #[.bool false] 4)).alloc (.cells #[.int .u8 27] 5)).setCell ⟨tp, 5, none⟩ (.slice (some ⟨w.heap.size + 1, 0, none⟩) 1 1)) tp sp qp FT { A with seq := [27] }) := by
  have hgb : ((w.alloc (.cells #[.bool false] 4)).alloc (.cells #[.int .u8 27] 5)).grownBy ((w.alloc (.cells #[.bool false] 4)).alloc (.cells #[.int .u8 27] 5)) V.ownBlock := ⟨rfl, rfl, rfl, Nat.le_refl _, fun _ _ _ => rfl⟩
  refine Term.boxed (gd := A.gd) (pr := A.pr) (attr := A.attr) H1.out HF.out (heap_set_same (grown_box H1.out hgb) 5 _) ?_ (.inr (.inl rfl)) (fun k hk => ?_) (grown_keeps H1.out hgb _)
  · have hl := World.ownsRow_lit (base := 0) (e := 5) (size := 1) (w.alloc (.cells #[.bool false] 4)) #[.int .u8 27] 1 (Nat.zero_le _) (by unfold maxLen; decide) rfl
    rw [World.size_alloc] at hl
    refine own_kept hl fun k hk => heap_setCell_other _ _ _ _ (show k ≠ tp from ?_)
    have := block_lt H1.out.box
    rw [World.size_alloc] at this
    injection hk with hk
    have hk : w.heap.size + 1 = k := hk
    omega
  · injection hk with hk
    have hk : w.heap.size + 1 = k := hk
    exact .inr (by rw [World.size_alloc]; omega)
 refine leaves_cons (f := 52) (args := #[.pointer (some ⟨tp, 0, none⟩), .pointer (some ⟨w.heap.size, 0, none⟩)]) (by simp) (by simp [go_sem]) ?_
 refine (rest_last HL.out HT.out (Keeps.refl _ _) (back_cell HL.out HT.out) .returning).mono ?_
 rintro e u' w'' ⟨rfl, rfl, h⟩
 exact ⟨_, results_none rfl _ _ _, rfl, h⟩
theorem take_more1 {w : World} {tp sp qp lb fr : Nat} {F FT : Nat → Prop} {V : Value} {A : Ad} (h : TermAt w tp sp qp lb fr F V A) (hF : ∀ k, FT k ↔ footT tp qp lb F V k) (b : UInt8) (hs : A.seq = [27]) (hb27 : ((b.toNat : Int) == 27) = false) (hb : ((b.toNat : Int) == 61) = true ∨ (((b.toNat : Int) == 61) = false ∧ ((b.toNat : Int) == 71) = true)) : Calls Tryz.prog 32 #[.pointer (some ⟨tp, 0, none⟩), .int .u8 b.toNat] w fun e w' => e = .returned (.tuple #[]) ∧ TermTo w w' tp sp qp FT (restA { A with seq := A.seq ++ [b] } false) := by
 have hlt : ∀ k, FT k → k < w.heap.size := fun k hk => h.lt ((hF k).1 hk)
 have HL := Lib.hid hlt
 have hb1 := below1 w (.cells #[.bool false] 4)
 obtain ⟨i0, hi, hz0, hz1, hz2⟩ := info_three infoByte
 have hok : okSeq (A.seq ++ [b]) := by
  rw [hs]
  rcases hb with hb | ⟨_, hb⟩
  · exact .inr (.inr (.inl (by rw [u8_of (n := 61) hb]; rfl)))
  · exact .inr (.inr (.inr (.inl (by rw [u8_of (n := 71) hb]; rfl))))
 have HOK := Lib.hid hok
 have hsl : A.seq.length = 1 := by rw [hs]; rfl
 obtain ⟨a0, c0, rfl⟩ := own_value h.own
 rw [hsl] at h hF
 have ho := (h.below hb1).own
 rw [hsl] at ho
 have HO := Lib.hid ho
 have H1 := Lib.hid (h.below hb1)
 have HF := Lib.hid hF
 have HSL := Lib.hid hsl
 obtain ⟨t0, t1, t2, t3, t4, t5, f2, f3, f4, f5⟩ := row6 (h.below hb1).box
 clear h hF hlt hb1 ho hok hs hsl
 rcases hb with hb | ⟨hb, hb71⟩
 ·
  go_enter_defers Tryz.func32, Tryz.ntmps32
  go_wp2_with (at_builtin; refine wpList_append_own_at _ rfl _ _ 34 rfl 0 5 i0 (.int .u8 0) 1 1 Tryz.underlying34 hi hz0 hz1 hz2 rfl (by decide) _ 1 _ rfl (HO.out.alloc _) ⟨w.heap.size + 1, 0, none⟩ 1 1 [.int .u8 b.toNat] rfl rfl (by have hco := cell_one_new (w.alloc (.cells #[.bool false] 4)) (.int .u8 b.toNat) 5; rw [World.size_alloc] at hco; exact hco) (by simp [Value.oneCell']) (by unfold maxLen; decide) (by decide) (Nat.zero_le _) ?_; intro v' w5 hown' hgrow _ hat; have hbx := grown_box H1.out hgrow; have q5 := cell_row hbx 5; have g5 := frozen_row hbx 5; have HOWN := Lib.hid hown'; have HGR := Lib.hid hgrow; have HAT := Lib.hid hat; obtain ⟨g', cap', rfl⟩ := own_succ hown'; clear hown' hgrow hat hbx)
  have hown := HOWN.out
  have HT : Hid (TermTo (w.alloc (.cells #[.bool false] 4)) (w5.setCell ⟨tp, 5, none⟩ (.slice (some ⟨g', 0, none⟩) (1 + 1) cap')) tp sp qp FT { A with seq := A.seq ++ [b] }) := Term.more H1.out HF.out HGR.out (by rw [HSL.out]; exact hown) HAT.out HOK.out
  refine leaves_cons (f := 52) (args := #[.pointer (some ⟨tp, 0, none⟩), .pointer (some ⟨w.heap.size, 0, none⟩)]) (by simp) (by simp [go_sem]) ?_
  refine (rest_last HL.out HT.out (Keeps.refl _ _) (back_cell HL.out HT.out) .returning).mono ?_
  rintro e u' w'' ⟨rfl, rfl, h⟩
  exact ⟨_, results_none rfl _ _ _, rfl, h⟩
 ·
  go_enter_defers Tryz.func32, Tryz.ntmps32
  go_wp2_with (at_builtin; refine wpList_append_own_at _ rfl _ _ 34 rfl 0 5 i0 (.int .u8 0) 1 1 Tryz.underlying34 hi hz0 hz1 hz2 rfl (by decide) _ 1 _ rfl (HO.out.alloc _) ⟨w.heap.size + 1, 0, none⟩ 1 1 [.int .u8 b.toNat] rfl rfl (by have hco := cell_one_new (w.alloc (.cells #[.bool false] 4)) (.int .u8 b.toNat) 5; rw [World.size_alloc] at hco; exact hco) (by simp [Value.oneCell']) (by unfold maxLen; decide) (by decide) (Nat.zero_le _) ?_; intro v' w5 hown' hgrow _ hat; have hbx := grown_box H1.out hgrow; have q5 := cell_row hbx 5; have g5 := frozen_row hbx 5; have HOWN := Lib.hid hown'; have HGR := Lib.hid hgrow; have HAT := Lib.hid hat; obtain ⟨g', cap', rfl⟩ := own_succ hown'; clear hown' hgrow hat hbx)
  have hown := HOWN.out
  have HT : Hid (TermTo (w.alloc (.cells #[.bool false] 4)) (w5.setCell ⟨tp, 5, none⟩ (.slice (some ⟨g', 0, none⟩) (1 + 1) cap')) tp sp qp FT { A with seq := A.seq ++ [b] }) := Term.more H1.out HF.out HGR.out (by rw [HSL.out]; exact hown) HAT.out HOK.out
  refine leaves_cons (f := 52) (args := #[.pointer (some ⟨tp, 0, none⟩), .pointer (some ⟨w.heap.size, 0, none⟩)]) (by simp) (by simp [go_sem]) ?_
  refine (rest_last HL.out HT.out (Keeps.refl _ _) (back_cell HL.out HT.out) .returning).mono ?_
  rintro e u' w'' ⟨rfl, rfl, h⟩
  exact ⟨_, results_none rfl _ _ _, rfl, h⟩
theorem take_more2 {w : World} {tp sp qp lb fr : Nat} {F FT : Nat → Prop} {V : Value} {A : Ad} (h : TermAt w tp sp qp lb fr F V A) (hF : ∀ k, FT k ↔ footT tp qp lb F V k) (b : UInt8) (hs : A.seq = [27, 61]) (hb27 : ((b.toNat : Int) == 27) = false)  : Calls Tryz.prog 32 #[.pointer (some ⟨tp, 0, none⟩), .int .u8 b.toNat] w fun e w' => e = .returned (.tuple #[]) ∧ TermTo w w' tp sp qp FT (restA { A with seq := A.seq ++ [b] } false) := by
 have hlt : ∀ k, FT k → k < w.heap.size := fun k hk => h.lt ((hF k).1 hk)
 have HL := Lib.hid hlt
 have hb1 := below1 w (.cells #[.bool false] 4)
 obtain ⟨i0, hi, hz0, hz1, hz2⟩ := info_three infoByte
 have hok : okSeq (A.seq ++ [b]) := by
  rw [hs]
  exact .inr (.inr (.inr (.inr ⟨b, rfl⟩)))
 have HOK := Lib.hid hok
 have hsl : A.seq.length = 2 := by rw [hs]; rfl
 obtain ⟨a0, c0, rfl⟩ := own_value h.own
 rw [hsl] at h hF
 have ho := (h.below hb1).own
 rw [hsl] at ho
 have HO := Lib.hid ho
 have H1 := Lib.hid (h.below hb1)
 have HF := Lib.hid hF
 have HSL := Lib.hid hsl
 obtain ⟨t0, t1, t2, t3, t4, t5, f2, f3, f4, f5⟩ := row6 (h.below hb1).box
 obtain ⟨g0, cg, hV⟩ := own_succ ho
 injection hV with hV1 hV2 hV3
 subst hV1 hV3
 have hc1 : (w.alloc (.cells #[.bool false] 4)).cell? ⟨g0, 1, none⟩ = some (.int .u8 61) := by
  rw [World.ownsRow.cellAt ho 1 (by decide), hs]
  rfl
 clear h hF hlt hb1 ho hok hs hsl
 go_enter_defers Tryz.func32, Tryz.ntmps32
 go_wp2_with (at_builtin; refine wpList_append_own_at _ rfl _ _ 34 rfl 0 5 i0 (.int .u8 0) 1 1 Tryz.underlying34 hi hz0 hz1 hz2 rfl (by decide) _ 2 _ rfl (HO.out.alloc _) ⟨w.heap.size + 1, 0, none⟩ 1 1 [.int .u8 b.toNat] rfl rfl (by have hco := cell_one_new (w.alloc (.cells #[.bool false] 4)) (.int .u8 b.toNat) 5; rw [World.size_alloc] at hco; exact hco) (by simp [Value.oneCell']) (by unfold maxLen; decide) (by decide) (Nat.zero_le _) ?_; intro v' w5 hown' hgrow _ hat; have hbx := grown_box H1.out hgrow; have q5 := cell_row hbx 5; have g5 := frozen_row hbx 5; have HOWN := Lib.hid hown'; have HGR := Lib.hid hgrow; have HAT := Lib.hid hat; obtain ⟨g', cap', rfl⟩ := own_succ hown'; clear hown' hgrow hat hbx)
 have hown := HOWN.out
 have HT : Hid (TermTo (w.alloc (.cells #[.bool false] 4)) (w5.setCell ⟨tp, 5, none⟩ (.slice (some ⟨g', 0, none⟩) (2 + 1) cap')) tp sp qp FT { A with seq := A.seq ++ [b] }) := Term.more H1.out HF.out HGR.out (by rw [HSL.out]; exact hown) HAT.out HOK.out
 refine leaves_cons (f := 52) (args := #[.pointer (some ⟨tp, 0, none⟩), .pointer (some ⟨w.heap.size, 0, none⟩)]) (by simp) (by simp [go_sem]) ?_
 refine (rest_last HL.out HT.out (Keeps.refl _ _) (back_cell HL.out HT.out) .returning).mono ?_
 rintro e u' w'' ⟨rfl, rfl, h⟩
 exact ⟨_, results_none rfl _ _ _, rfl, h⟩
theorem take_end1 {w : World} {tp sp qp lb fr : Nat} {F FT : Nat → Prop} {V : Value} {A : Ad} (h : TermAt w tp sp qp lb fr F V A) (hF : ∀ k, FT k ↔ footT tp qp lb F V k) (b : UInt8) (hs : A.seq = [27]) (hb27 : ((b.toNat : Int) == 27) = false) (r : Ad × Bool) (hend : ∀ (W : World) (FT' F' : Nat → Prop) (V' : Value) (lb' fr' gg cap : Nat), TermAt W tp sp qp lb' fr' F' V' { A with seq := [] } → (∀ k, FT' k ↔ footT tp qp lb' F' V' k) → W.ownsRow 0 5 1 (.slice (some ⟨gg, 0, none⟩) 2 cap) 2 (bytesV (A.seq ++ [b])) → Calls Tryz.prog 54 #[.pointer (some ⟨tp, 0, none⟩), .slice (some ⟨gg, 0, none⟩) 2 cap] W fun e w' => e = .returned (.bool r.2) ∧ TermTo W w' tp sp qp FT' r.1) (hb61 : ((b.toNat : Int) == 61) = false) (hb71 : ((b.toNat : Int) == 71) = false) : Calls Tryz.prog 32 #[.pointer (some ⟨tp, 0, none⟩), .int .u8 b.toNat] w fun e w' => e = .returned (.tuple #[]) ∧ TermTo w w' tp sp qp FT (restA r.1 r.2) := by
 have hlt : ∀ k, FT k → k < w.heap.size := fun k hk => h.lt ((hF k).1 hk)
 have HL := Lib.hid hlt
 have hb1 := below1 w (.cells #[.bool false] 4)
 obtain ⟨i0, hi, hz0, hz1, hz2⟩ := info_three infoByte
 have hsl : A.seq.length = 1 := by rw [hs]; rfl
 obtain ⟨a0, c0, rfl⟩ := own_value h.own
 rw [hsl] at h hF
 have ho := (h.below hb1).own
 rw [hsl] at ho
 have HO := Lib.hid ho
 have H1 := Lib.hid (h.below hb1)
 have HF := Lib.hid hF
 have HSL := Lib.hid hsl
 obtain ⟨t0, t1, t2, t3, t4, t5, f2, f3, f4, f5⟩ := row6 (h.below hb1).box
 have HEND := Lib.hid hend
 clear h hF hlt hb1 ho hs hsl hend
 obtain ⟨A1, back⟩ := r
 simp only at HEND ⊢
 go_enter_defers Tryz.func32, Tryz.ntmps32
 go_wp2_with (first
  | (at_builtin; refine wpList_append_own_at _ rfl _ _ 34 rfl 0 5 i0 (.int .u8 0) 1 1 Tryz.underlying34 hi hz0 hz1 hz2 rfl (by decide) _ 1 _ rfl (HO.out.alloc _) ⟨w.heap.size + 1, 0, none⟩ 1 1 [.int .u8 b.toNat] rfl rfl (by have hco := cell_one_new (w.alloc (.cells #[.bool false] 4)) (.int .u8 b.toNat) 5; rw [World.size_alloc] at hco; exact hco) (by simp [Value.oneCell']) (by unfold maxLen; decide) (by decide) (Nat.zero_le _) ?_; intro v' w5 hown' hgrow _ hat; have hbx := grown_box H1.out hgrow; have q5 := cell_row hbx 5; have g5 := frozen_row hbx 5; have HOWN := Lib.hid hown'; have HGR := Lib.hid hgrow; have HAT := Lib.hid hat; obtain ⟨g', cap', rfl⟩ := own_succ hown'; clear hown' hgrow hat hbx)
  | (go_at_call 54; obtain ⟨⟨FT1, ⟨lb1, fr1, F1, V1, hA1, hF1⟩, hs1⟩, hK1⟩ := Term.gone H1.out HF.out HGR.out; have hown := own_kept (W' := w5.setCell ⟨tp, 5, none⟩ (.slice none 0 0)) HOWN.out (fun k hk => heap_setCell_other _ _ _ _ (show k ≠ tp from by rcases HAT.out with e | e; exact (H1.out.nv k (e.symm.trans hk)).2.1; (unfold footV at hk; rw [hk] at e; injection e with e; have := block_lt H1.out.box; rw [World.size_alloc] at e; omega))); refine (HEND.out _ FT1 F1 V1 lb1 fr1 g' cap' hA1 hF1 (by rw [← bytesV_snoc]; exact hown)).mono ?_; rintro e w7 ⟨rfl, ht⟩; have HT := Lib.hid (TermTo.link hs1 hK1 ht); clear ht hown hs1 hK1 hA1 hF1; have HX := Lib.hid (back_cell HL.out HT.out); have k0 := cell_row HX.out 0; have kf := frozen_row HX.out 0))
 refine leaves_cons (f := 52) (args := #[.pointer (some ⟨tp, 0, none⟩), .pointer (some ⟨w.heap.size, 0, none⟩)]) (by simp) (by simp [go_sem]) ?_
 refine (rest_last HL.out HT.out ((Keeps.refl (fun k => k = w.heap.size) w7).setCell' (p := ⟨w.heap.size, 0, none⟩) rfl _) (heap_set_same HX.out 0 (.bool back)) .returning).mono ?_
 rintro e u' w'' ⟨rfl, rfl, h⟩
 exact ⟨_, results_none rfl _ _ _, rfl, h⟩
theorem take_end2 {w : World} {tp sp qp lb fr : Nat} {F FT : Nat → Prop} {V : Value} {A : Ad} (h : TermAt w tp sp qp lb fr F V A) (hF : ∀ k, FT k ↔ footT tp qp lb F V k) (b : UInt8) (hs : A.seq = [27, 71]) (hb27 : ((b.toNat : Int) == 27) = false) (r : Ad × Bool) (hend : ∀ (W : World) (FT' F' : Nat → Prop) (V' : Value) (lb' fr' gg cap : Nat), TermAt W tp sp qp lb' fr' F' V' { A with seq := [] } → (∀ k, FT' k ↔ footT tp qp lb' F' V' k) → W.ownsRow 0 5 1 (.slice (some ⟨gg, 0, none⟩) 3 cap) 3 (bytesV (A.seq ++ [b])) → Calls Tryz.prog 54 #[.pointer (some ⟨tp, 0, none⟩), .slice (some ⟨gg, 0, none⟩) 3 cap] W fun e w' => e = .returned (.bool r.2) ∧ TermTo W w' tp sp qp FT' r.1)  : Calls Tryz.prog 32 #[.pointer (some ⟨tp, 0, none⟩), .int .u8 b.toNat] w fun e w' => e = .returned (.tuple #[]) ∧ TermTo w w' tp sp qp FT (restA r.1 r.2) := by
 have hlt : ∀ k, FT k → k < w.heap.size := fun k hk => h.lt ((hF k).1 hk)
 have HL := Lib.hid hlt
 have hb1 := below1 w (.cells #[.bool false] 4)
 obtain ⟨i0, hi, hz0, hz1, hz2⟩ := info_three infoByte
 have hsl : A.seq.length = 2 := by rw [hs]; rfl
 obtain ⟨a0, c0, rfl⟩ := own_value h.own
 rw [hsl] at h hF
 have ho := (h.below hb1).own
 rw [hsl] at ho
 have HO := Lib.hid ho
 have H1 := Lib.hid (h.below hb1)
 have HF := Lib.hid hF
 have HSL := Lib.hid hsl
 obtain ⟨t0, t1, t2, t3, t4, t5, f2, f3, f4, f5⟩ := row6 (h.below hb1).box
 obtain ⟨g0, cg, hV⟩ := own_succ ho
 injection hV with hV1 hV2 hV3
 subst hV1 hV3
 have hc1 : (w.alloc (.cells #[.bool false] 4)).cell? ⟨g0, 1, none⟩ = some (.int .u8 71) := by
  rw [World.ownsRow.cellAt ho 1 (by decide), hs]
  rfl
 have HEND := Lib.hid hend
 clear h hF hlt hb1 ho hs hsl hend
 obtain ⟨A1, back⟩ := r
 simp only at HEND ⊢
 go_enter_defers Tryz.func32, Tryz.ntmps32
 go_wp2_with (first
  | (at_builtin; refine wpList_append_own_at _ rfl _ _ 34 rfl 0 5 i0 (.int .u8 0) 1 1 Tryz.underlying34 hi hz0 hz1 hz2 rfl (by decide) _ 2 _ rfl (HO.out.alloc _) ⟨w.heap.size + 1, 0, none⟩ 1 1 [.int .u8 b.toNat] rfl rfl (by have hco := cell_one_new (w.alloc (.cells #[.bool false] 4)) (.int .u8 b.toNat) 5; rw [World.size_alloc] at hco; exact hco) (by simp [Value.oneCell']) (by unfold maxLen; decide) (by decide) (Nat.zero_le _) ?_; intro v' w5 hown' hgrow _ hat; have hbx := grown_box H1.out hgrow; have q5 := cell_row hbx 5; have g5 := frozen_row hbx 5; have HOWN := Lib.hid hown'; have HGR := Lib.hid hgrow; have HAT := Lib.hid hat; obtain ⟨g', cap', rfl⟩ := own_succ hown'; clear hown' hgrow hat hbx)
  | (go_at_call 54; obtain ⟨⟨FT1, ⟨lb1, fr1, F1, V1, hA1, hF1⟩, hs1⟩, hK1⟩ := Term.gone H1.out HF.out HGR.out; have hown := own_kept (W' := w5.setCell ⟨tp, 5, none⟩ (.slice none 0 0)) HOWN.out (fun k hk => heap_setCell_other _ _ _ _ (show k ≠ tp from by rcases HAT.out with e | e; exact (H1.out.nv k (e.symm.trans hk)).2.1; (unfold footV at hk; rw [hk] at e; injection e with e; have := block_lt H1.out.box; rw [World.size_alloc] at e; omega))); refine (HEND.out _ FT1 F1 V1 lb1 fr1 g' cap' hA1 hF1 (by rw [← bytesV_snoc]; exact hown)).mono ?_; rintro e w7 ⟨rfl, ht⟩; have HT := Lib.hid (TermTo.link hs1 hK1 ht); clear ht hown hs1 hK1 hA1 hF1; have HX := Lib.hid (back_cell HL.out HT.out); have k0 := cell_row HX.out 0; have kf := frozen_row HX.out 0))
 refine leaves_cons (f := 52) (args := #[.pointer (some ⟨tp, 0, none⟩), .pointer (some ⟨w.heap.size, 0, none⟩)]) (by simp) (by simp [go_sem]) ?_
 refine (rest_last HL.out HT.out ((Keeps.refl (fun k => k = w.heap.size) w7).setCell' (p := ⟨w.heap.size, 0, none⟩) rfl _) (heap_set_same HX.out 0 (.bool back)) .returning).mono ?_
 rintro e u' w'' ⟨rfl, rfl, h⟩
 exact ⟨_, results_none rfl _ _ _, rfl, h⟩
theorem take_end3 {w : World} {tp sp qp lb fr : Nat} {F FT : Nat → Prop} {V : Value} {A : Ad} (h : TermAt w tp sp qp lb fr F V A) (hF : ∀ k, FT k ↔ footT tp qp lb F V k) (b x : UInt8) (hs : A.seq = [27, 61, x]) (hb27 : ((b.toNat : Int) == 27) = false) (r : Ad × Bool) (hend : ∀ (W : World) (FT' F' : Nat → Prop) (V' : Value) (lb' fr' gg cap : Nat), TermAt W tp sp qp lb' fr' F' V' { A with seq := [] } → (∀ k, FT' k ↔ footT tp qp lb' F' V' k) → W.ownsRow 0 5 1 (.slice (some ⟨gg, 0, none⟩) 4 cap) 4 (bytesV (A.seq ++ [b])) → Calls Tryz.prog 54 #[.pointer (some ⟨tp, 0, none⟩), .slice (some ⟨gg, 0, none⟩) 4 cap] W fun e w' => e = .returned (.bool r.2) ∧ TermTo W w' tp sp qp FT' r.1) : Calls Tryz.prog 32 #[.pointer (some ⟨tp, 0, none⟩), .int .u8 b.toNat] w fun e w' => e = .returned (.tuple #[]) ∧ TermTo w w' tp sp qp FT (restA r.1 r.2) := by
 have hlt : ∀ k, FT k → k < w.heap.size := fun k hk => h.lt ((hF k).1 hk)
 have HL := Lib.hid hlt
 have hb1 := below1 w (.cells #[.bool false] 4)
 obtain ⟨i0, hi, hz0, hz1, hz2⟩ := info_three infoByte
 have hsl : A.seq.length = 3 := by rw [hs]; rfl
 obtain ⟨a0, c0, rfl⟩ := own_value h.own
 rw [hsl] at h hF
 have ho := (h.below hb1).own
 rw [hsl] at ho
 have HO := Lib.hid ho
 have H1 := Lib.hid (h.below hb1)
 have HF := Lib.hid hF
 have HSL := Lib.hid hsl
 obtain ⟨t0, t1, t2, t3, t4, t5, f2, f3, f4, f5⟩ := row6 (h.below hb1).box
 have HEND := Lib.hid hend
 clear h hF hlt hb1 ho hs hsl hend
 obtain ⟨A1, back⟩ := r
 simp only at HEND ⊢
 go_enter_defers Tryz.func32, Tryz.ntmps32
 go_wp2_with (first
  | (at_builtin; refine wpList_append_own_at _ rfl _ _ 34 rfl 0 5 i0 (.int .u8 0) 1 1 Tryz.underlying34 hi hz0 hz1 hz2 rfl (by decide) _ 3 _ rfl (HO.out.alloc _) ⟨w.heap.size + 1, 0, none⟩ 1 1 [.int .u8 b.toNat] rfl rfl (by have hco := cell_one_new (w.alloc (.cells #[.bool false] 4)) (.int .u8 b.toNat) 5; rw [World.size_alloc] at hco; exact hco) (by simp [Value.oneCell']) (by unfold maxLen; decide) (by decide) (Nat.zero_le _) ?_; intro v' w5 hown' hgrow _ hat; have hbx := grown_box H1.out hgrow; have q5 := cell_row hbx 5; have g5 := frozen_row hbx 5; have HOWN := Lib.hid hown'; have HGR := Lib.hid hgrow; have HAT := Lib.hid hat; obtain ⟨g', cap', rfl⟩ := own_succ hown'; clear hown' hgrow hat hbx)
  | (go_at_call 54; obtain ⟨⟨FT1, ⟨lb1, fr1, F1, V1, hA1, hF1⟩, hs1⟩, hK1⟩ := Term.gone H1.out HF.out HGR.out; have hown := own_kept (W' := w5.setCell ⟨tp, 5, none⟩ (.slice none 0 0)) HOWN.out (fun k hk => heap_setCell_other _ _ _ _ (show k ≠ tp from by rcases HAT.out with e | e; exact (H1.out.nv k (e.symm.trans hk)).2.1; (unfold footV at hk; rw [hk] at e; injection e with e; have := block_lt H1.out.box; rw [World.size_alloc] at e; omega))); refine (HEND.out _ FT1 F1 V1 lb1 fr1 g' cap' hA1 hF1 (by rw [← bytesV_snoc]; exact hown)).mono ?_; rintro e w7 ⟨rfl, ht⟩; have HT := Lib.hid (TermTo.link hs1 hK1 ht); clear ht hown hs1 hK1 hA1 hF1; have HX := Lib.hid (back_cell HL.out HT.out); have k0 := cell_row HX.out 0; have kf := frozen_row HX.out 0))
 refine leaves_cons (f := 52) (args := #[.pointer (some ⟨tp, 0, none⟩), .pointer (some ⟨w.heap.size, 0, none⟩)]) (by simp) (by simp [go_sem]) ?_
 refine (rest_last HL.out HT.out ((Keeps.refl (fun k => k = w.heap.size) w7).setCell' (p := ⟨w.heap.size, 0, none⟩) rfl _) (heap_set_same HX.out 0 (.bool back)) .returning).mono ?_
 rintro e u' w'' ⟨rfl, rfl, h⟩
 exact ⟨_, results_none rfl _ _ _, rfl, h⟩
end
section
attribute [local go_sem] alloc_drewN setCell_drewN World.cell?_alloc_some frozen_alloc_some size_f0 size_f1
theorem u8_ne {b : UInt8} {n : Nat} (hn : n < 256) (h : b ≠ UInt8.ofNat n) : ((b.toNat : Int) == (n : Int)) = false := by
 have : b.toNat ≠ n := fun e => h (UInt8.toNat_inj.1 (by rw [UInt8.toNat_ofNat']; omega))
 simp
 omega
theorem term_take {w : World} {tp sp qp : Nat} {FT : Nat → Prop} {A : Ad} (h : Term w tp sp qp FT A) (b : UInt8) : Calls Tryz.prog 32 #[.pointer (some ⟨tp, 0, none⟩), .int .u8 b.toNat] w fun e w' => e = .returned (.tuple #[]) ∧ TermTo w w' tp sp qp FT (takeA A b) := by
 obtain ⟨lb, fr, F, V, h, hF⟩ := h
 have hok := h.ok
 unfold takeA takeC
 by_cases h27 : b = 27
 · subst h27
   rw [if_pos rfl]
   exact take_escape h hF
 rw [if_neg h27]
 have e27 := u8_ne (n := 27) (by decide) h27
 rcases hok with hs | hs | hs | hs | ⟨x, hs⟩
 · rw [if_pos (by rw [hs]; rfl)]
   exact take_ground h hF b.toNat (fun e => h27 (UInt8.toNat_inj.1 e)) (by rw [hs]; rfl)
 · rw [if_neg (by rw [hs]; decide)]
   by_cases hm : b = 61 ∨ b = 71
   · rw [if_pos (.inl ⟨by rw [hs]; rfl, hm⟩)]
     refine take_more1 h hF b hs e27 ?_
     rcases hm with rfl | rfl
     · exact .inl rfl
     · exact .inr ⟨rfl, rfl⟩
   · rw [if_neg (by
      rintro (⟨_, hh⟩ | ⟨hh, _⟩)
      · exact hm hh
      · rw [hs] at hh
        exact absurd hh (by decide))]
     have hn61 : b ≠ 61 := fun e => hm (.inl e)
     have hn71 : b ≠ 71 := fun e => hm (.inr e)
     refine take_end1 h hF b hs e27 _ (fun W FT' F' V' lb' fr' gg cap hA' hF' hown => ?_) (u8_ne (n := 61) (by decide) hn61) (u8_ne (n := 71) (by decide) hn71)
     have he : endA { A with seq := [] } (A.seq ++ [b]).tail = oneA { A with seq := [] } b.toNat := by
      rw [hs]
      show endA _ [b] = _
      unfold endA
      simp only
      rw [if_neg hn61, if_neg hn71]
     rw [he]
     refine end_one hA' hF' gg cap b.toNat ?_ (fun e => hn61 (UInt8.toNat_inj.1 e)) (fun e => hn71 (UInt8.toNat_inj.1 e))
     rw [World.ownsRow.cellAt hown 1 (by decide), hs]
     rfl
 · rw [if_neg (by rw [hs]; decide), if_pos (.inr ⟨by rw [hs]; rfl, by rw [hs]; rfl⟩)]
   exact take_more2 h hF b hs e27
 · rw [if_neg (by rw [hs]; decide), if_neg (by
    rintro (⟨hh, _⟩ | ⟨_, hh⟩)
    · rw [hs] at hh
      exact absurd hh (by decide)
    · rw [hs] at hh
      exact absurd hh (by decide))]
   refine take_end2 h hF b hs e27 _ (fun W FT' F' V' lb' fr' gg cap hA' hF' hown => ?_)
   have he : endA { A with seq := [] } (A.seq ++ [b]).tail = (dyesA { A with seq := [] } b.toNat, false) := by
    rw [hs]
    rfl
   rw [he]
   refine end_dyes hA' hF' gg cap b.toNat (UInt8.toNat_lt b) ?_ ?_
   · rw [World.ownsRow.cellAt hown 1 (by decide), hs]
     rfl
   · rw [World.ownsRow.cellAt hown 2 (by decide), hs]
     rfl
 · rw [if_neg (by rw [hs]; simp), if_neg (by
    rintro (⟨hh, _⟩ | ⟨hh, _⟩)
    · rw [hs] at hh
      simp at hh
    · rw [hs] at hh
      simp at hh)]
   refine take_end3 h hF b x hs e27 _ (fun W FT' F' V' lb' fr' gg cap hA' hF' hown => ?_)
   have he : endA { A with seq := [] } (A.seq ++ [b]).tail = (addrA { A with seq := [] } ((x.toNat : Int) - 32) ((b.toNat : Int) - 32), false) := by
    rw [hs]
    rfl
   rw [he, addrA_eq]
   have c1 : W.cell? ⟨gg, 1, none⟩ = some (.int .u8 61) := by
    rw [World.ownsRow.cellAt hown 1 (by decide), hs]
    rfl
   have c2 : W.cell? ⟨gg, 2, none⟩ = some (.int .u8 x.toNat) := by
    rw [World.ownsRow.cellAt hown 2 (by decide), hs]
    rfl
   have c3 : W.cell? ⟨gg, 3, none⟩ = some (.int .u8 b.toNat) := by
    rw [World.ownsRow.cellAt hown 3 (by decide), hs]
    rfl
   by_cases hin : (⟨(x.toNat : Int) - 32, (b.toNat : Int) - 32⟩ : Vz.Ps).inS A.S.D.R A.S.D.C
   · refine (end_addr_in hA'.adm gg cap x.toNat b.toNat (UInt8.toNat_lt x) (UInt8.toNat_lt b) c1 c2 c3 hin).mono fun e w' h' => ⟨h'.1, ?_⟩
     have := Term.scrTo hA' hF' h'.2
     show TermTo W w' tp sp qp FT' { A with S := addrS A.S _ _, seq := [] }
     unfold addrS
     rw [if_pos (show 0 ≤ (x.toNat : Int) - 32 ∧ (x.toNat : Int) - 32 < (A.S.D.R : Int) ∧ 0 ≤ (b.toNat : Int) - 32 ∧ (b.toNat : Int) - 32 < (A.S.D.C : Int) from hin)]
     exact this
   · refine (end_addr_out hA'.adm gg cap x.toNat b.toNat (UInt8.toNat_lt x) (UInt8.toNat_lt b) c1 c2 c3 hin).mono fun e w' h' => ⟨h'.1, ?_⟩
     have := Term.scrTo hA' hF' h'.2
     show TermTo W w' tp sp qp FT' { A with S := addrS A.S _ _, seq := [] }
     unfold addrS
     rw [if_neg (show ¬ (0 ≤ (x.toNat : Int) - 32 ∧ (x.toNat : Int) - 32 < (A.S.D.R : Int) ∧ 0 ≤ (b.toNat : Int) - 32 ∧ (b.toNat : Int) - 32 < (A.S.D.C : Int)) from hin)]
     exact this
theorem feedA_take (A : Ad) (l : List UInt8) {k : Nat} (hk : k < l.length) : feedA A (l.take (k + 1)) = takeA (feedA A (l.take k)) (l[k]?.getD 0 % 128) := by
 have e : l.take (k + 1) = l.take k ++ [l[k]?.getD 0] := by
  rw [List.take_add_one, List.getElem?_eq_getElem hk]
  rfl
 rw [e, feedA_append]
 rfl
theorem term_feed {w : World} {tp sp qp : Nat} {FT : Nat → Prop} {A : Ad} (h : Term w tp sp qp FT A) (l : List UInt8) (hl : l.length ≤ 100000) : Calls Tryz.prog 13 #[.pointer (some ⟨tp, 0, none⟩), .string ⟨l.toArray⟩] w fun e w' => e = .returned (.tuple #[]) ∧ TermTo w w' tp sp qp FT (feedA A l) := by
 have H := Lib.hid h
 clear h
 go_enter Tryz.func13, Tryz.ntmps13
 go_wp2_with fail
 go_loopw [9] (fun i wr => ∃ k : Nat, k ≤ l.length ∧ i = .int .i64 k ∧ TermTo w wr tp sp qp FT (feedA A (l.take k))) (fun i _ => l.length - (intOf i).toNat)
 case atStart => exact ⟨0, Nat.zero_le _, rfl, by rw [List.take_zero]; exact TermTo.refl H.out⟩
 case round =>
  obtain ⟨k, hk, rfl, hT⟩ := hrel
  by_cases hlt : k < l.length
  · have hzk : (k : Int) < (l.length : Int) := by omega
    have hzn : k ≠ l.length := by omega
    have hz0 : (0 : Int) ≤ (k : Int) := by omega
    obtain ⟨⟨F1, h1, hs1⟩, hK1⟩ := hT
    have HTK := Lib.hid (term_take h1 (l[k]?.getD 0 % 128))
    have HS1 := Lib.hid hs1
    have HK1 := Lib.hid hK1
    have HGX : Hid ((⟨l.toArray⟩ : ByteArray)[k]'(by show k < l.toArray.size; simpa using hlt) = l[k]?.getD 0) := by
     show l.toArray[k]'(by simpa using hlt) = _
     simp [List.getElem?_eq_getElem hlt]
    have HM : Hid (((l[k]?.getD 0 % 128).toNat : Int) = ((l[k]?.getD 0).toNat : Int) % 128) := by
     show ((l[k]?.getD 0 % 128).toNat : Int) = _
     rw [UInt8.toNat_mod]
     rfl
    clear h1 hs1 hK1
    go_wp2_with (go_at_call 32; rw [HGX.out, ← HM.out]; refine HTK.out.mono ?_; rintro e w2 ⟨rfl, ht⟩; have HT2 := Lib.hid (TermTo.link HS1.out HK1.out ht); clear ht)
    exact ⟨⟨k + 1, by omega, by go_num, by rw [feedA_take A l hlt]; exact HT2.out⟩, by simp [intOf]; omega⟩
  · obtain rfl : k = l.length := by omega
    have HT := Lib.hid hT
    clear hT
    go_wp2_with fail
    go_end0
    refine ⟨rfl, ?_⟩
    have := HT.out
    rwa [List.take_length] at this
end
end Go.Proofs.YtncgigapgklhcaaGreatDoor
