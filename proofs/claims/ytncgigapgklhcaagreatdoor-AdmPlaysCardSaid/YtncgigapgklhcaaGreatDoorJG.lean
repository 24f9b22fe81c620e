import Derived.Test.YtncgigapgklhcaaGreatDoorJF
import Derived.Test.YtncgigapgklhcaaGreatDoorJA
import Derived.Test.YtncgigapgklhcaaGreatDoorJB
import Derived.Test.YtncgigapgklhcaaGreatDoorHY

set_option maxRecDepth 100000
set_option maxHeartbeats 16000000
namespace Go.Proofs.YtncgigapgklhcaaGreatDoor
open Go.RowKit
set_option linter.unusedSimpArgs false
set_option linter.unusedVariables false
/- Walks of vizardref18: Byte. -/
section
set_option maxRecDepth 100000
attribute [local go_sem] alloc_drewN setCell_drewN World.cell?_alloc_some frozen_alloc_some size_f0 size_f1
section
variable {w : World} {rp lb cap sb : Nat} {r : Rf}
def ByteOk (w : World) (rp lb sb : Nat) (r : Rf) (b : UInt8) : Prop := Calls Tryz.prog 28 #[.pointer (some ⟨rp, 0, none⟩), .int .u8 (b.toNat : Int)] w fun e w' => e = .returned (.tuple #[]) ∧ RfTo w w' rp lb sb (byteR r b)
theorem rf_byte (h : RfAt w rp lb cap sb r) (hm : r.may) (hq : r.q.length ≤ 20) (hs : okSeq r.seq) (b : UInt8) (hm3 : (takeR r (b % 128)).1.may) : ByteOk w rp lb sb r b := by
 obtain ⟨x, hx⟩ : ∃ x, b % 128 = x := ⟨_, rfl⟩
 obtain ⟨m, hbm⟩ : ∃ m, b.toNat = m := ⟨_, rfl⟩
 obtain ⟨v, hv⟩ : ∃ v, x.toNat = v := ⟨_, rfl⟩
 have hmv : m % 128 = v := by rw [← hv, ← hx, ← hbm, UInt8.toNat_mod]; rfl
 have hv128 : v < 128 := by omega
 have e01 : (m : Int) % 128 = (v : Int) := by omega
 have e02 : (m : Int).tmod 128 = (v : Int) := by rw [Int.tmod_eq_emod_of_nonneg (by omega)]; exact e01
 have e03 : IntKind.u8.wrap (v : Int) = (v : Int) := by simp [IntKind.wrap, IntKind.bits, IntKind.signed]; omega
 obtain ⟨r3, bk, hT⟩ : ∃ r3 bk, takeR r x = (r3, bk) := ⟨_, _, rfl⟩
 have HE : Hid (byteR r b = restR r3 bk) := by show _ = _; unfold byteR; rw [hx, hT]
 have HM3 : Hid r3.may := by show Rf.may _; rw [hx, hT] at hm3; exact hm3
 have hx27 : x = 27 ↔ v = 27 := by rw [← hv]; exact ⟨fun e => by rw [e]; rfl, fun e => UInt8.toNat_inj.1 (e.trans rfl)⟩
 have hx61 : x = 61 ↔ v = 61 := by rw [← hv]; exact ⟨fun e => by rw [e]; rfl, fun e => UInt8.toNat_inj.1 (e.trans rfl)⟩
 have hx71 : x = 71 ↔ v = 71 := by rw [← hv]; exact ⟨fun e => by rw [e]; rfl, fun e => UInt8.toNat_inj.1 (e.trans rfl)⟩
 have HB0 : Hid (Below w.heap.size w w.drew) := (Below.refl _ _).drew
 have HYW := Lib.hid (fun W (hb : Below w.heap.size w W) => (h.below hb).cells.1.2.2.2.2.2.2.2.2.2.1)
 have h9 := h.set_ (r' := { r with seq := [] }) 9 (.string ⟨#[]⟩) rfl rfl rfl rfl rfl
 have HLK : Hid (∀ W r', RfTo (w.setCell ⟨rp, 9, none⟩ (.string ⟨#[]⟩)) W rp lb sb r' → RfTo w W rp lb sb r') := fun W r' h' => RfTo.link (.inl rfl) (.inl rfl) ((keeps_box w rp 9 (.string ⟨#[]⟩)).mono fun x e => .inl e) h'
 have y9 := h.cells.1.2.2.2.2.2.2.2.2.2.1
 have f9 := h.cells.2.2.2.2.2.2.2.2.1
 unfold ByteOk
 rw [hbm, HE.out]
 have hcase : v = 27 ∨ (v ≠ 27 ∧ r.seq = []) ∨ (v ≠ 27 ∧ r.seq = [27, 61]) ∨ (v ≠ 27 ∧ r.seq = [27, 71]) ∨ (v ≠ 27 ∧ ∃ y, r.seq = [27, 61, y]) ∨ (v ≠ 27 ∧ r.seq = [27] ∧ v = 61) ∨ (v ≠ 27 ∧ r.seq = [27] ∧ v ≠ 61 ∧ v = 71) ∨ (v ≠ 27 ∧ r.seq = [27] ∧ v ≠ 61 ∧ v ≠ 71) := by
  by_cases c1 : v = 27
  · exact .inl c1
  refine .inr ?_
  rcases hs with e | e | e | e | e
  · exact .inl ⟨c1, e⟩
  · by_cases c2 : v = 61
    · exact .inr (.inr (.inr (.inr (.inl ⟨c1, e, c2⟩))))
    · by_cases c3 : v = 71
      · exact .inr (.inr (.inr (.inr (.inr (.inl ⟨c1, e, c2, c3⟩)))))
      · exact .inr (.inr (.inr (.inr (.inr (.inr ⟨c1, e, c2, c3⟩)))))
  · exact .inr (.inl ⟨c1, e⟩)
  · exact .inr (.inr (.inl ⟨c1, e⟩))
  · exact .inr (.inr (.inr (.inl ⟨c1, e⟩)))
 have key : ∀ (u : Nat), v ≠ u → ((v : Int) == (u : Int)) = false := fun u e => beq_eq_false_iff_ne.2 (by omega)
 have keyt : ∀ (u : Nat), v = u → ((v : Int) == (u : Int)) = true := fun u e => beq_iff_eq.2 (by omega)
 rcases hcase with c | ⟨c, e⟩ | ⟨c, e⟩ | ⟨c, e⟩ | ⟨c, y, e⟩ | ⟨c, e, c2⟩ | ⟨c, e, c2, c3⟩ | ⟨c, e, c2, c3⟩
 case' inl =>
  obtain ⟨rfl, rfl⟩ : { r with seq := [27] } = r3 ∧ false = bk := by
   have : takeR r x = ({ r with seq := [27] }, false) := if_pos (hx27.2 c)
   rw [this] at hT
   exact Prod.mk.inj hT
  obtain ⟨r3, hr3⟩ : ∃ r3, { r with seq := [27] } = r3 := ⟨_, rfl⟩
  have k1 : ((v : Int) == 27) = true := keyt 27 c
  have hset := h.set_ (r' := { r with seq := [27] }) 9 (.string ⟨#[27]⟩) rfl rfl rfl rfl rfl
  rw [hr3] at HE HM3 hset ⊢
  obtain ⟨W3, hW3⟩ : ∃ W, w.setCell ⟨rp, 9, none⟩ (.string ⟨#[27]⟩) = W := ⟨_, rfl⟩
  have HX : Hid (RfAt W3 rp lb cap sb r3 ∧ ∀ W r', RfTo W3 W rp lb sb r' → RfTo w W rp lb sb r') := by
   show _ ∧ _
   rw [← hW3]
   exact ⟨hset, fun W r' h' => RfTo.link (.inl rfl) (.inl rfl) ((keeps_box w rp 9 _).mono fun x e => .inl e) h'⟩
  clear h hm hq hs hm3 hT h9 hset hr3 hx27 hx61 hx71 hx hv key keyt
  go_enter Tryz.func28, Tryz.ntmps28
  go_upto_region 12 with fail
  try rw [hW3]
  clear hW3
  obtain ⟨w3, l3, c3, s3, hw3, H3, K3⟩ : ∃ w3 l3 c3 s3, w3 = W3 ∧ Hid (RfAt w3 rp l3 c3 s3 r3) ∧ Hid (∀ W r', RfTo w3 W rp l3 s3 r' → RfTo w W rp lb sb r') := ⟨W3, lb, cap, sb, rfl, HX.out.1, HX.out.2⟩
  clear HX
  subst hw3
 case' inr.inl =>
  rw [e] at y9
  have k1 : ((v : Int) == 27) = false := key 27 c
  have HC : Hid (Calls Tryz.prog 44 #[.pointer (some ⟨rp, 0, none⟩), .int .u8 (v : Int)] w fun e w' => e = .returned (.bool bk) ∧ ∃ l c s, RfAt w' rp l c s r3 ∧ ∀ W r', RfTo w' W rp l s r' → RfTo w W rp lb sb r') := by
   have hG : takeR r x = groundR r v := by unfold takeR; rw [if_neg (fun e => c (hx27.1 e)), if_pos e, hv]
   refine (rf_ground h hm (by omega) v hv128).mono ?_
   rintro e w' ⟨rfl, ht⟩
   rw [← hG, hT] at ht ⊢
   exact ⟨rfl, ht.then⟩
  clear h hm hq hs hm3 hT h9 hx27 hx61 hx71 hx hv key keyt e
 case' inr.inr.inl =>
  rw [e] at y9
  have k1 : ((v : Int) == 27) = false := key 27 c
  have hG : takeR r x = (moreR r x, false) := by unfold takeR; rw [if_neg (fun e => c (hx27.1 e)), if_neg (by rw [e]; simp), if_pos (by rw [e]; decide)]
  obtain ⟨g1, rfl⟩ : moreR r x = r3 ∧ false = bk := by rw [hG] at hT; exact Prod.mk.inj hT
  have HC : Hid (Calls Tryz.prog 45 #[.pointer (some ⟨rp, 0, none⟩), .int .u8 (v : Int)] w fun e w' => e = .returned (.tuple #[]) ∧ ∃ l c s, RfAt w' rp l c s r3 ∧ ∀ W r', RfTo w' W rp l s r' → RfTo w W rp lb sb r') := by
   rw [← hv]
   refine (more_two h e x).mono ?_
   rintro e w' ⟨rfl, ht⟩
   rw [g1] at ht
   exact ⟨rfl, ht.then⟩
  clear h hm hq hs hm3 hT hG h9 hx27 hx61 hx71 hx hv key keyt e g1
 case' inr.inr.inr.inl =>
  rw [e] at y9
  have k1 : ((v : Int) == 27) = false := key 27 c
  have hG : takeR r x = (moreR r x, false) := by unfold takeR; rw [if_neg (fun e => c (hx27.1 e)), if_neg (by rw [e]; simp), if_pos (by rw [e]; decide)]
  obtain ⟨g1, rfl⟩ : moreR r x = r3 ∧ false = bk := by rw [hG] at hT; exact Prod.mk.inj hT
  have HC : Hid (Calls Tryz.prog 45 #[.pointer (some ⟨rp, 0, none⟩), .int .u8 (v : Int)] w fun e w' => e = .returned (.tuple #[]) ∧ ∃ l c s, RfAt w' rp l c s r3 ∧ ∀ W r', RfTo w' W rp l s r' → RfTo w W rp lb sb r') := by
   rw [← hv]
   refine (more_dye h e x).mono ?_
   rintro e w' ⟨rfl, ht⟩
   rw [g1] at ht
   exact ⟨rfl, ht.then⟩
  clear h hm hq hs hm3 hT hG h9 hx27 hx61 hx71 hx hv key keyt e g1
 case' inr.inr.inr.inr.inl =>
  rw [e] at y9
  have k1 : ((v : Int) == 27) = false := key 27 c
  have hG : takeR r x = (moreR r x, false) := by unfold takeR; rw [if_neg (fun e => c (hx27.1 e)), if_neg (by rw [e]; simp), if_pos (by rw [e]; simp)]
  obtain ⟨g1, rfl⟩ : moreR r x = r3 ∧ false = bk := by rw [hG] at hT; exact Prod.mk.inj hT
  have HC : Hid (Calls Tryz.prog 45 #[.pointer (some ⟨rp, 0, none⟩), .int .u8 (v : Int)] w fun e w' => e = .returned (.tuple #[]) ∧ ∃ l c s, RfAt w' rp l c s r3 ∧ ∀ W r', RfTo w' W rp l s r' → RfTo w W rp lb sb r') := by
   rw [← hv]
   refine (more_three h hm y e x).mono ?_
   rintro e w' ⟨rfl, ht⟩
   rw [g1] at ht
   exact ⟨rfl, ht.then⟩
  clear h hm hq hs hm3 hT hG h9 hx27 hx61 hx71 hx hv key keyt e g1
 case' inr.inr.inr.inr.inr.inr.inr =>
  rw [e] at y9
  have k1 : ((v : Int) == 27) = false := key 27 c
  have k2 : ((v : Int) == 61) = false := key 61 c2
  have k3 : ((v : Int) == 71) = false := key 71 c3
  have hG : takeR r x = escapeR { r with seq := [] } v := by unfold takeR; rw [if_neg (fun e => c (hx27.1 e)), if_neg (by rw [e]; simp), if_neg (by rw [e]; decide), if_neg (fun e => e.elim (fun e => c2 (hx61.1 e)) fun e => c3 (hx71.1 e)), hv]
  have HC : Hid (Calls Tryz.prog 46 #[.pointer (some ⟨rp, 0, none⟩), .int .u8 (v : Int)] (w.setCell ⟨rp, 9, none⟩ (.string ⟨#[]⟩)) fun e w' => e = .returned (.bool bk) ∧ ∃ l c s, RfAt w' rp l c s r3 ∧ ∀ W r', RfTo w' W rp l s r' → RfTo w W rp lb sb r') := by
   refine (rf_escape h9 (by exact hm) (by exact hq) v).mono ?_
   rintro e w' ⟨rfl, ht⟩
   rw [← hG, hT] at ht ⊢
   obtain ⟨l, c, s, g1, g2⟩ := ht.then
   exact ⟨rfl, l, c, s, g1, fun W r' h' => HLK.out W r' (g2 W r' h')⟩
  clear h hm hq hs hm3 hT hG h9 hx27 hx61 hx71 hx hv key keyt e
 case' inr.inr.inr.inr.inr.inl => have k2 : ((v : Int) == 61) = true := keyt 61 c2
 case' inr.inr.inr.inr.inr.inr.inl =>
  have k2 : ((v : Int) == 61) = false := key 61 c2
  have k3 : ((v : Int) == 71) = true := keyt 71 c3
 case' inr.inr.inr.inr.inr.inl => have hx4 : x = 61 ∨ x = 71 := .inl (hx61.2 c2)
 case' inr.inr.inr.inr.inr.inr.inl =>
  have hx4 : x = 61 ∨ x = 71 := .inr (hx71.2 c3)
  clear c3
 case' inr.inr.inr.inr.inr.inl | inr.inr.inr.inr.inr.inr.inl =>
  have k1 : ((v : Int) == 27) = false := key 27 c
  have hG : takeR r x = ({ r with seq := [27, x] }, false) := by unfold takeR; rw [if_neg (fun e => c (hx27.1 e)), if_neg (by rw [e]; simp), if_neg (by rw [e]; decide), if_pos hx4, e]; rfl
  obtain ⟨g1, rfl⟩ : { r with seq := [27, x] } = r3 ∧ false = bk := by rw [hG] at hT; exact Prod.mk.inj hT
  have ha := heap_alloc_new w.drew (.cells #[.int .u8 (v : Int)] 5)
  have hcv : (convert 34 9 (.slice (some ⟨w.heap.size, 0, none⟩) 1 1)).run Tryz.prog (w.alloc (.cells #[.int .u8 (v : Int)] 5)).drew = .ok (.string ⟨[x].toArray⟩) (w.alloc (.cells #[.int .u8 (v : Int)] 5)).drew := by
   rw [← hv] at ha ⊢
   exact conv_one [x] ha
  have hb1 : Below w.heap.size w (w.alloc (.cells #[.int .u8 (v : Int)] 5)).drew := (below1 w _).drew
  have HY : Hid (∀ W, Below w.heap.size w W → W.cell? ⟨rp, 9, none⟩ = some (.string ⟨#[27]⟩)) := fun W hb => by have := HYW.out W hb; rw [e] at this; exact this
  have es : (⟨#[27]⟩ : ByteArray) ++ ⟨[x].toArray⟩ = ⟨[27, x].toArray⟩ := by apply ByteArray.ext; rw [ByteArray.data_append]; simp
  obtain ⟨W3, hW3⟩ : ∃ W, (w.alloc (.cells #[.int .u8 (v : Int)] 5)).drew.setCell ⟨rp, 9, none⟩ (.string (⟨#[27]⟩ ++ ⟨[x].toArray⟩)) = W := ⟨_, rfl⟩
  have HX : Hid (RfAt W3 rp lb cap sb r3 ∧ ∀ W r', RfTo W3 W rp lb sb r' → RfTo w W rp lb sb r') := by
   show _ ∧ _
   rw [← hW3, ← g1, es]
   have hset := (h.below hb1).set_ (r' := { r with seq := [27, x] }) 9 (.string ⟨[27, x].toArray⟩) rfl rfl rfl rfl rfl
   exact ⟨hset, fun W r' h' => RfTo.link (.inl rfl) (.inl rfl) ((Keeps.of_below hb1 : Keeps (fun k => k = rp ∨ k = lb ∨ k = sb) _ _).trans (keeps_box _ rp 9 _) fun x e => .inl (.inl e)) h'⟩
  have hz1 : (⟨[x].toArray⟩ : ByteArray).size = 1 := rfl
  rw [e] at y9
  clear h hm hq hs hm3 hT hG h9 hx27 hx61 hx71 hx hv key keyt e g1 hx4 ha hb1 es HYW c2
  go_enter Tryz.func28, Tryz.ntmps28
  go_upto_region 9 with fail
  refine wp_region_noPanic ?_
  refine wp_region_k (S := fun W : World => Below w.heap.size w W) 11 (by kernel_rfl) (HB0.out) (fun hHeld => ?_)
  refine kSK 0 hHeld ?_
  refine kSK 1 hHeld ?_
  refine kSK 2 hHeld ?_
  refine kSK 3 hHeld ?_
  refine kTK (v := ?_) 4 [] hHeld ?y5 ?_
  case y5 => (intro W hSw; have q9 := HY.out _ hSw; go_simp; try with_reducible rfl)
  try refine kNK ?_
  refine kSK 5 hHeld ?_
  try refine kNK ?_
  refine kOK 6 fun KQ hKQ => ?_
  go_simp
  skip
  refine hKQ.out _ _ (hHeld.alloc hHeld.size _) ?_
  clear hHeld hKQ KQ
  intro hHeld
  try refine kNK ?_
  refine kOK 7 fun KQ hKQ => ?_
  go_simp
  skip
  refine hKQ.out _ _ (hHeld) ?_
  clear hHeld hKQ KQ
  intro hHeld
  try refine kNK ?_
  refine kSK 8 hHeld ?_
  refine kSK 9 hHeld ?_
  refine kSK 10 hHeld ?_
  try refine kNK ?_
  refine kPK 11 fun KQ hKQ => ?_
  go_simp
  skip
  refine hKQ.out _ _ ?_
  clear hKQ KQ
  try refine kNK ?_
  refine wpAnyK_done (by kernel_rfl) ?_ _
  refine NoPanic.normal ?_
  go_upto_region 12 with fail
  try rw [hW3]
  clear hW3 hcv hHeld
  obtain ⟨w3, l3, c3, s3, hw3, H3, K3⟩ : ∃ w3 l3 c3 s3, w3 = W3 ∧ Hid (RfAt w3 rp l3 c3 s3 r3) ∧ Hid (∀ W r', RfTo w3 W rp l3 s3 r' → RfTo w W rp lb sb r') := ⟨W3, lb, cap, sb, rfl, HX.out.1, HX.out.2⟩
  clear HX
  subst hw3
 case' inr.inl | inr.inr.inl | inr.inr.inr.inl | inr.inr.inr.inr.inl | inr.inr.inr.inr.inr.inr.inr =>
  go_enter Tryz.func28, Tryz.ntmps28
  go_upto_region 12 with (first
   | (go_at_call 44; refine HC.out.mono ?_; rintro e w3 ⟨rfl, l3, c3, s3, h3, k3⟩; have H3 := Lib.hid h3; have K3 := Lib.hid k3; clear h3 k3)
   | (go_at_call 45; refine HC.out.mono ?_; rintro e w3 ⟨rfl, l3, c3, s3, h3, k3⟩; have H3 := Lib.hid h3; have K3 := Lib.hid k3; clear h3 k3)
   | (go_at_call 46; refine HC.out.mono ?_; rintro e w3 ⟨rfl, l3, c3, s3, h3, k3⟩; have H3 := Lib.hid h3; have K3 := Lib.hid k3; clear h3 k3))
 all_goals (
  clear y9 f9
  have hl := HM3.out.here_lt
  have hn := HM3.out.n
  obtain ⟨n, hnn⟩ : ∃ n, r3.R * r3.C = n := ⟨_, rfl⟩
  obtain ⟨f, hf⟩ : ∃ f, r3.here = f := ⟨_, rfl⟩
  have HR3 : Hid (Below w3.heap.size w3 w3) := Below.refl _ _
  have HHQ := Lib.hid (fun m => rf_here_q (H3.out.below (below_drewN (Below.refl w3.heap.size w3) m)) HM3.out)
  have HHE := Lib.hid (fun W (hW : Below w3.heap.size w3 W) => rf_here (H3.out.below hW) HM3.out)
  have HFR := Lib.hid (fun W (hW : Below w3.heap.size w3 W) (bk : Bool) => rf_free (H3.out.below hW) HM3.out f (by rw [← hf]; exact hl.1) bk)
  have HGO := Lib.hid (fun W (hW : Below w3.heap.size w3 W) k hk => rf_goTo (H3.out.below hW) HM3.out k hk)
  have HCE := Lib.hid (fun W (hW : Below w3.heap.size w3 W) => (H3.out.below hW).cellsN hnn)
  have HAT := Lib.hid (fun W (hW : Below w3.heap.size w3 W) => (H3.out.below hW).at_ (k := f) (by rw [← hf]; exact hl.1))
  rw [hf] at HHE HHQ
  rw [hf, hnn] at hl
  have hfz : (f : Int) < (n : Int) := by omega
  have HF := Lib.hid hf
  have HN := Lib.hid hnn
  clear hnn hl hf hn
  by_cases hp : r3.pr = true
  · have HP8 : Hid (∀ W, Below w3.heap.size w3 W → W.cell? ⟨rp, 8, none⟩ = some (.bool true)) := fun W hW => by have := (HCE.out W hW).1.2.2.2.2.2.2.2.2.1; rw [hp] at this; exact this
    have HP2 : Hid (∀ W, Below w3.heap.size w3 W → W.cell? ⟨rp, 2, none⟩ = some (.slice (some ⟨l3, 0, none⟩) n c3)) := fun W hW => (HCE.out W hW).1.2.2.1
    cases hg : (r3.F f).gd with
    | false =>
      have HA : Hid (∀ W, Below w3.heap.size w3 W → W.cell? ⟨l3, f * 4 + 2, none⟩ = some (.bool false)) := fun W hW => by have := (HAT.out W hW).1.2.2.1; rw [hg] at this; exact this
      have HRE : Hid (∀ bk, restR r3 bk = r3) := fun bk => if_neg (fun e => by rw [HF.out, hg] at e; exact absurd e.2 (by decide))
      clear hp hg
      have y8 := HP8.out _ HR3.out
      have y2 := HP2.out _ HR3.out
      have a2 := HA.out _ HR3.out
      go_quiet ((go_at_call 47; exact Calls.quiet_of (HHQ.out _)))
      have HS5 := Lib.hid (below_drewN HR3.out nq)
      clear y8 y2 a2
      all_goals (
       go_wp2_with fail
       go_end0
       exact ⟨rfl, by rw [HRE.out]; exact K3.out _ _ ((RfTo.refl H3.out).later HS5.out)⟩)
    | true =>
      have HA : Hid (∀ W, Below w3.heap.size w3 W → W.cell? ⟨l3, f * 4 + 2, none⟩ = some (.bool true)) := fun W hW => by have := (HAT.out W hW).1.2.2.1; rw [hg] at this; exact this
      have HRE : Hid (∀ bk, restR r3 bk = nextR r3 (freeR r3 f bk)) := fun bk => by show _ = _; unfold restR; rw [HF.out, if_pos ⟨hp, hg⟩]
      clear hp hg
      have y8 := HP8.out _ HR3.out
      have y2 := HP2.out _ HR3.out
      have a2 := HA.out _ HR3.out
      go_quiet ((go_at_call 47; exact Calls.quiet_of (HHQ.out _)))
      have HS5 := Lib.hid (below_drewN HR3.out nq)
      clear y8 y2 a2
      all_goals (
       obtain ⟨bb, hbb⟩ : ∃ bb : Bool, bb = (by first | exact bk | exact false) := ⟨_, rfl⟩
       cases hfr : freeR r3 f bb with
       | none =>
         have HF0 : Hid (∀ W, Below w3.heap.size w3 W → Calls Tryz.prog 48 #[.pointer (some ⟨rp, 0, none⟩), .int .i64 (f : Int), .bool bb] W fun e w' => e = .returned (.int .i64 (-1)) ∧ w' = W) := fun W hW => by have := HFR.out W hW bb; rw [hfr] at this; exact this
         have HRE2 : Hid (restR r3 bb = r3) := (HRE.out bb).trans (by rw [hfr]; rfl)
         clear hfr HFR HRE
         subst hbb
         go_wp2_with (first
          | (go_at_call 47; refine (HHE.out _ HS5.out).mono ?_; rintro e w6 ⟨rfl, hb6⟩; have HS6 := Lib.hid (Below.later HS5.out hb6 HS5.out.size); clear hb6)
          | (go_at_call 48; refine (HF0.out _ HS6.out).mono ?_; rintro e w7 ⟨rfl, rfl⟩))
         go_end0
         exact ⟨rfl, by rw [HRE2.out]; exact K3.out _ _ ((RfTo.refl H3.out).later HS6.out)⟩
       | some k =>
         have hkl : k < r3.R * r3.C := freeF_lt r3 f bb (by have := HM3.out.n; omega) _ _ _ hfr
         have HF0 : Hid (∀ W, Below w3.heap.size w3 W → Calls Tryz.prog 48 #[.pointer (some ⟨rp, 0, none⟩), .int .i64 (f : Int), .bool bb] W fun e w' => e = .returned (.int .i64 (k : Int)) ∧ w' = W) := fun W hW => by have := HFR.out W hW bb; rw [hfr] at this; exact this
         have HRE2 : Hid (restR r3 bb = goToR r3 k) := (HRE.out bb).trans (by rw [hfr]; rfl)
         have HGK := Lib.hid (fun W (hW : Below w3.heap.size w3 W) => HGO.out W hW k hkl)
         have hk0 : ¬ (k : Int) < 0 := by omega
         clear hfr HFR HRE hkl HGO
         subst hbb
         go_wp2_with (first
          | (go_at_call 47; refine (HHE.out _ HS5.out).mono ?_; rintro e w6 ⟨rfl, hb6⟩; have HS6 := Lib.hid (Below.later HS5.out hb6 HS5.out.size); clear hb6)
          | (go_at_call 48; refine (HF0.out _ HS6.out).mono ?_; rintro e w7 ⟨rfl, rfl⟩)
          | (go_at_call 49; refine (HGK.out _ HS6.out).mono ?_; rintro e w8 ⟨rfl, h8⟩; have H8 := Lib.hid h8; clear h8))
         go_end0
         exact ⟨rfl, by rw [HRE2.out]; exact K3.out _ _ (RfTo.after HS6.out H8.out)⟩)
  · have HP8 : Hid (∀ W, Below w3.heap.size w3 W → W.cell? ⟨rp, 8, none⟩ = some (.bool false)) := fun W hW => by have := (HCE.out W hW).1.2.2.2.2.2.2.2.2.1; rw [show r3.pr = false by cases e : r3.pr with | false => rfl | true => exact absurd e hp] at this; exact this
    have HRE : Hid (∀ bk, restR r3 bk = r3) := fun bk => if_neg (fun e => hp e.1)
    clear hp
    have y8 := HP8.out _ HR3.out
    go_quiet (fail)
    have HS5 := Lib.hid (below_drewN HR3.out nq)
    go_wp2_with fail
    go_end0
    exact ⟨rfl, by rw [HRE.out]; exact K3.out _ _ ((RfTo.refl H3.out).later HS5.out)⟩)
end
end
section
set_option maxRecDepth 100000
attribute [local go_sem] alloc_drewN setCell_drewN World.cell?_alloc_some frozen_alloc_some size_f0 size_f1
section
variable {w : World} {rp lb cap sb : Nat} {r : Rf}
theorem RfAt.reset (h : RfAt w rp lb cap sb r) {W : World} (hb : Below w.heap.size w W) {rp' lb' cap' sb' : Nat} {most : Int} (h' : RfAt W rp' lb' cap' sb' (newR r.R r.C most)) (hl : w.heap.size ≤ lb' ∧ w.heap.size ≤ sb') :
 RfTo w ((((((((W.setCell ⟨rp, 2, none⟩ (.slice (some ⟨lb', 0, none⟩) (r.R * r.C) cap')).setCell ⟨rp, 5, none⟩ (.slice (some ⟨sb', 0, none⟩) r.C r.C)).setCell ⟨rp, 3, none⟩ (.int .i64 0)).setCell ⟨rp, 4, none⟩ (.int .i64 0)).setCell ⟨rp, 6, none⟩ (.int .i64 0)).setCell ⟨rp, 7, none⟩ (.bool false)).setCell ⟨rp, 8, none⟩ (.bool false)).setCell ⟨rp, 9, none⟩ (.string ⟨#[]⟩)) rp lb sb (resetR r) := by
 have h0 := (h.below hb).box
 have h1 := heap_set_same h0 2 (.slice (some ⟨lb', 0, none⟩) (r.R * r.C) cap')
 have h2 := heap_set_same h1 5 (.slice (some ⟨sb', 0, none⟩) r.C r.C)
 have h3 := heap_set_same h2 3 (.int .i64 0)
 have h4 := heap_set_same h3 4 (.int .i64 0)
 have h5 := heap_set_same h4 6 (.int .i64 0)
 have h6 := heap_set_same h5 7 (.bool false)
 have h7 := heap_set_same h6 8 (.bool false)
 have h8 := heap_set_same h7 9 (.string ⟨#[]⟩)
 have k1 := (((((((keeps_box W rp 2 (.slice (some ⟨lb', 0, none⟩) (r.R * r.C) cap')).setCell' (p := ⟨rp, 5, none⟩) rfl (.slice (some ⟨sb', 0, none⟩) r.C r.C)).setCell' (p := ⟨rp, 3, none⟩) rfl (.int .i64 0)).setCell' (p := ⟨rp, 4, none⟩) rfl (.int .i64 0)).setCell' (p := ⟨rp, 6, none⟩) rfl (.int .i64 0)).setCell' (p := ⟨rp, 7, none⟩) rfl (.bool false)).setCell' (p := ⟨rp, 8, none⟩) rfl (.bool false)).setCell' (p := ⟨rp, 9, none⟩) rfl (.string ⟨#[]⟩)
 have hlt := h.lt.1
 have n1 : rp ≠ lb' := by omega
 have n2 : rp ≠ sb' := by omega
 refine ⟨⟨lb', cap', sb', ⟨?_, ?_, ?_, n1, n2, h'.n3⟩, .inr hl.1, .inr hl.2⟩, ?_⟩
 · refine h8.trans ?_
   simp [rfC, resetR]
 · exact h'.row.of_block (k1.block _ h'.lt.2.1 (fun e => n1 e.symm))
 · exact h'.stops.of_block (k1.block _ h'.lt.2.2 (fun e => n2 e.symm))
 · exact ((Keeps.of_below hb : Keeps (fun k => k = rp) w W).trans k1 fun k e => .inl e).mono fun k e => .inl e
theorem rf_reset (h : RfAt w rp lb cap sb r) (hm : r.may) : Calls Tryz.prog 29 #[.pointer (some ⟨rp, 0, none⟩)] w fun e w' => e = .returned (.tuple #[]) ∧ RfTo w w' rp lb sb (resetR r) := by
 obtain ⟨n, hnn⟩ : ∃ n, r.R * r.C = n := ⟨_, rfl⟩
 have HNN := Lib.hid hnn
 have HB0 : Hid (Below w.heap.size w w.drew) := (Below.refl _ _).drew
 have HC := Lib.hid (fun W (hb : Below w.heap.size w W) => (h.below hb).cellsN hnn)
 have HN := Lib.hid (fun W => rf_new r.R r.C ⟨hm.1, hm.2.1⟩ ⟨hm.2.2.1, hm.2.2.2.1⟩ r.most W)
 have HR : Hid (∀ W, Below w.heap.size w W → ∀ rp' lb' cap' sb', RfAt W rp' lb' cap' sb' (newR r.R r.C r.most) → (w.heap.size ≤ lb' ∧ w.heap.size ≤ sb') → RfTo w ((((((((W.setCell ⟨rp, 2, none⟩ (.slice (some ⟨lb', 0, none⟩) n cap')).setCell ⟨rp, 5, none⟩ (.slice (some ⟨sb', 0, none⟩) r.C r.C)).setCell ⟨rp, 3, none⟩ (.int .i64 0)).setCell ⟨rp, 4, none⟩ (.int .i64 0)).setCell ⟨rp, 6, none⟩ (.int .i64 0)).setCell ⟨rp, 7, none⟩ (.bool false)).setCell ⟨rp, 8, none⟩ (.bool false)).setCell ⟨rp, 9, none⟩ (.string ⟨#[]⟩)) rp lb sb (resetR r)) := fun W hb rp' lb' cap' sb' h' hl => by
  rw [← hnn]
  exact h.reset hb h' hl
 have HLT := Lib.hid h.lt.1
 clear h hm hnn
 go_enter Tryz.func29, Tryz.ntmps29
 go_upto_region 0 with fail
 refine wp_region_noPanic ?_
 refine wp_region_k (S := fun W : World => Below w.heap.size w W) 13 (by kernel_rfl) (HB0.out) (fun hHeld => ?_)
 refine kSK 0 hHeld ?_
 refine kSK 1 hHeld ?_
 refine kSK 2 hHeld ?_
 refine kTK (v := ?_) 3 [8] hHeld ?y4 ?_
 case y4 => (intro W hSw; obtain ⟨⟨y0, y1, y2, y3, y4, y5, y6, y7, y8, y9, y10, y11, y12⟩, _⟩ := HC.out _ hSw; go_simp; try with_reducible rfl)
 refine kSK 4 hHeld ?_
 try refine kNK ?_
 refine kSK 5 hHeld ?_
 refine kSK 6 hHeld ?_
 refine kTK (v := ?_) 7 [8] hHeld ?y8 ?_
 case y8 => (intro W hSw; obtain ⟨⟨y0, y1, y2, y3, y4, y5, y6, y7, y8, y9, y10, y11, y12⟩, _⟩ := HC.out _ hSw; go_simp; try with_reducible rfl)
 refine kSK 8 hHeld ?_
 refine kSK 9 hHeld ?_
 try refine kNK ?_
 refine kSK 10 hHeld ?_
 refine kSK 11 hHeld ?_
 refine kTK (v := ?_) 12 [] hHeld ?y13 ?_
 case y13 => (intro W hSw; obtain ⟨⟨y0, y1, y2, y3, y4, y5, y6, y7, y8, y9, y10, y11, y12⟩, _⟩ := HC.out _ hSw; go_simp; try with_reducible rfl)
 try refine kNK ?_
 refine kPK 13 fun KQ hKQ => ?_
 go_simp
 go_at_call 26
 refine (HN.out _).mono ?_
 rintro e w5 ⟨rq, lq, cq, sq, rfl, h5, hl5, hb5⟩
 have hs5 := Below.later hHeld hb5 hHeld.size
 have HB5 := Lib.hid hs5
 have hl6 : w.heap.size ≤ rq ∧ w.heap.size ≤ lq ∧ w.heap.size ≤ sq := (by have := hHeld.size; omega)
 have HL5 := Lib.hid hl6
 have H5 := Lib.hid h5
 clear h5 hl5 hb5 hs5 hl6
 go_wp2_with fail
 refine hKQ.out _ _ ?_
 clear hKQ KQ
 try refine kNK ?_
 refine kBK 14 ?_
 try refine kNK ?_
 refine wpAnyK_done (by kernel_rfl) ?_ _
 refine NoPanic.normal ?_
 obtain ⟨⟨x0, x1, x2, x3, x4, x5, _⟩, _⟩ := H5.out.cellsN (n := n) HNN.out
 have x2' : w5.cell? ⟨rq, 2, none⟩ = some (.slice (some ⟨lq, 0, none⟩) n cq) := x2
 have x5' : w5.cell? ⟨rq, 5, none⟩ = some (.slice (some ⟨sq, 0, none⟩) r.C r.C) := x5
 obtain ⟨⟨y0, y1, y2, y3, y4, y5, y6, y7, y8, y9, y10, y11, y12⟩, f2, f3, f4, f5, f6, f7, f8, f9, f10, f12⟩ := HC.out _ HB5.out
 have hne : rq ≠ rp := by have := HL5.out.1; have := HLT.out; omega
 have hne' : rp ≠ rq := fun e => hne e.symm
 have HE := Lib.hid (HR.out _ HB5.out rq lq cq sq H5.out ⟨HL5.out.2.1, HL5.out.2.2⟩)
 clear x0 x1 x2 x3 x4 x5
 go_wp2_with fail
 go_end0
 exact ⟨rfl, HE.out⟩
end
def resetA (A : Ad) : Ad := { A with S := clearS (stopsS A.S 0) false, gd := false, pr := false, attr := 0, seq := [] }
theorem tm_reset {w : World} {tp sp qp : Nat} {FT : Nat → Prop} {A : Ad} (h : Term w tp sp qp FT A) : Calls Tryz.prog 17 #[.pointer (some ⟨tp, 0, none⟩)] w fun e w' => e = .returned (.tuple #[]) ∧ TermTo w w' tp sp qp FT (resetA A) := by
 obtain ⟨lb, fr, F, V, h, hF⟩ := h
 obtain ⟨t0, t1, t2, t3, t4, t5, f2, f3, f4, f5⟩ := row6 h.box
 have b1 := heap_set_same h.box 2 (.bool false)
 have b2 := heap_set_same b1 3 (.bool false)
 have b3 := heap_set_same b2 4 (.int .i64 0)
 have b4 := heap_set_same b3 5 (.slice none 0 0)
 have kk := ((((Keeps.setCell (fun k => k = tp) w (p := ⟨tp, 2, none⟩) rfl (.bool false)).setCell' (p := ⟨tp, 3, none⟩) rfl (.bool false)).setCell' (p := ⟨tp, 4, none⟩) rfl (.int .i64 0)).setCell' (p := ⟨tp, 5, none⟩) rfl (.slice none 0 0))
 obtain ⟨W1, hW1⟩ : ∃ W, (((w.setCell ⟨tp, 2, none⟩ (.bool false)).setCell ⟨tp, 3, none⟩ (.bool false)).setCell ⟨tp, 4, none⟩ (.int .i64 0)).setCell ⟨tp, 5, none⟩ (.slice none 0 0) = W := ⟨_, rfl⟩
 rw [hW1] at b4 kk
 have HT : Hid (TermTo w W1 tp sp qp FT { A with gd := false, pr := false, attr := 0, seq := [] }) :=
  Term.boxed (gd := false) (pr := false) (attr := 0) h hF b4 (World.ownsRow_nil _ _ _ _) (.inl rfl) (fun k hk => by cases hk) (kk.mono fun k e => .inl e)
 obtain ⟨⟨F1, ht1, hf1⟩, hk1⟩ := HT.out
 obtain ⟨lb1, fr1, G1, V1, h1, hG1⟩ := ht1
 obtain ⟨u0, u1, u2, u3, u4, u5, _⟩ := row6 h1.box
 have HS := Lib.hid (scr_stops sp G1 A.S 0 W1 h1.scr (by decide))
 have HTT := Lib.hid (fun W (hs : ScrTo W1 W sp G1 (stopsS A.S 0)) => Term.scrTo h1 hG1 hs)
 have HLK := Lib.hid (fun W A' (hs : TermTo W1 W tp sp qp F1 A') => TermTo.link hf1 hk1 hs)
 clear h hF b1 b2 b3 b4 kk h1 hG1 hf1 hk1 HT
 go_enter Tryz.func17, Tryz.ntmps17
 go_upto_region 2 with fail
 try rw [hW1]
 clear hW1 t0 t1 t2 t3 t4 t5 f2 f3 f4 f5
 go_upto_region 3 with (go_at_call 34; refine HS.out.mono ?_; rintro e w2 ⟨rfl, hs⟩; have HS2 := Lib.hid (HTT.out _ hs); clear hs)
 obtain ⟨⟨F2, ht2, hf2⟩, hk2⟩ := HS2.out
 obtain ⟨lb2, fr2, G2, V2, h2, hG2⟩ := ht2
 have HCL : Hid (Calls Tryz.prog 35 #[.pointer (some ⟨tp, 0, none⟩)] w2 fun e w' => e = .returned (.tuple #[]) ∧ ScrTo w2 w' sp G2 (clearS (stopsS A.S 0) false)) := adm_cleared h2.adm
 have HT3 := Lib.hid (fun W (hs : ScrTo w2 W sp G2 (clearS (stopsS A.S 0) false)) => Term.scrTo h2 hG2 hs)
 have HL2 := Lib.hid (fun W A' (hs : TermTo w2 W tp sp qp F2 A') => TermTo.link hf2 hk2 hs)
 clear h2 hG2 hf2 hk2 HS2
 go_wp2_with (go_at_call 35; refine HCL.out.mono ?_; rintro e w3 ⟨rfl, hs⟩; have HS3 := Lib.hid (HT3.out _ hs); clear hs)
 go_end0
 exact ⟨rfl, HLK.out _ _ (HL2.out _ _ HS3.out)⟩
end
section
set_option maxRecDepth 100000
attribute [local go_sem] alloc_drewN setCell_drewN World.cell?_alloc_some frozen_alloc_some size_f0 size_f1
def boxL (W : World) (wp tp sp qp : Nat) : Prop := W.heap[wp]? = some (.cells #[.pointer (some ⟨sp, 0, none⟩), .pointer (some ⟨qp, 0, none⟩), .pointer (some ⟨tp, 0, none⟩)] 32 (0, 0))
structure PairAt (w W : World) (wp tp sp qp : Nat) (A : Ad) (FT : Nat → Prop) (rp lb cap sb : Nat) (r : Rf) : Prop where
 box : boxL W wp tp sp qp
 t : Term W tp sp qp FT A
 r : RfAt W rp lb cap sb r
 nT : ∀ k, FT k → w.heap.size ≤ k
 nw : ¬ FT wp
 n1 : ¬ FT rp
 n2 : ¬ FT lb
 n3 : ¬ FT sb
 w1 : wp ≠ rp
 w2 : wp ≠ lb
 w3 : wp ≠ sb
 lw : w.heap.size ≤ wp
 lr : w.heap.size ≤ rp
 ll : w.heap.size ≤ lb
 ls : w.heap.size ≤ sb
 bel : Below w.heap.size w W
 gl : 0 < w.heap.size
def Pair (w W : World) (wp tp sp qp : Nat) (A : Ad) (rp : Nat) (r : Rf) : Prop := ∃ FT lb cap sb, PairAt w W wp tp sp qp A FT rp lb cap sb r
section
variable {w W W' : World} {wp tp sp qp rp lb cap sb : Nat} {A A' : Ad} {r r' : Rf} {FT : Nat → Prop}
theorem Pair.below (h : Pair w W wp tp sp qp A rp r) (hb : Below W.heap.size W W') : Pair w W' wp tp sp qp A rp r := by
 obtain ⟨FT, lb, cap, sb, h⟩ := h
 exact ⟨FT, lb, cap, sb, ⟨(hb.block _ (block_lt h.box)).trans h.box, h.t.below hb, h.r.below hb, h.nT, h.nw, h.n1, h.n2, h.n3, h.w1, h.w2, h.w3, h.lw, h.lr, h.ll, h.ls, Below.later h.bel hb h.bel.size, h.gl⟩⟩
theorem Pair.belowW (h : Pair w W wp tp sp qp A rp r) : Below w.heap.size w W := by
 obtain ⟨FT, lb, cap, sb, h⟩ := h
 exact h.bel
theorem PairAt.left (h : PairAt w W wp tp sp qp A FT rp lb cap sb r) (ht : TermTo W W' tp sp qp FT A') : Pair w W' wp tp sp qp A' rp r := by
 obtain ⟨⟨F', t1, t2⟩, hK⟩ := ht
 have hs := h.bel.size
 have hl := block_lt h.box
 obtain ⟨l1, l2, l3⟩ := h.r.lt
 have key : ∀ k, k < W.heap.size → ¬ FT k → ¬ F' k := fun k hk hn hf => by
  rcases t2 k hf with h1 | h1
  · exact hn h1
  · omega
 refine ⟨F', lb, cap, sb, ⟨(hK.block _ hl h.nw).trans h.box, t1, h.r.keeps hK h.n1 h.n2 h.n3, fun k hk => ?_, key _ hl h.nw, key _ l1 h.n1, key _ l2 h.n2, key _ l3 h.n3, h.w1, h.w2, h.w3, h.lw, h.lr, h.ll, h.ls, h.bel.trans (hK.below h.nT hs), h.gl⟩⟩
 rcases t2 k hk with h1 | h1
 · exact h.nT k h1
 · omega
theorem PairAt.right (h : PairAt w W wp tp sp qp A FT rp lb cap sb r) (ht : RfTo W W' rp lb sb r') : Pair w W' wp tp sp qp A rp r' := by
 obtain ⟨⟨l', c', s', t1, t2, t3⟩, hK⟩ := ht
 have hs := h.bel.size
 have hl := block_lt h.box
 have hlt := h.t.lt
 refine ⟨FT, l', c', s', ⟨(hK.block _ hl ?_).trans h.box, h.t.keeps hK ?_ ?_, t1, h.nT, h.nw, h.n1, ?_, ?_, h.w1, ?_, ?_, h.lw, h.lr, ?_, ?_, h.bel.trans (hK.below ?_ hs), h.gl⟩⟩
 · rintro (e | e | e)
   · exact h.w1 e
   · exact h.w2 e
   · exact h.w3 e
 · rintro k hk (rfl | rfl | rfl)
   · exact h.n1 hk
   · exact h.n2 hk
   · exact h.n3 hk
 · have := h.gl
   have := h.lr
   have := h.ll
   have := h.ls
   rintro (e | e | e) <;> omega
 · rcases t2 with rfl | e
   · exact h.n2
   · intro hf; have := hlt _ hf; omega
 · rcases t3 with rfl | e
   · exact h.n3
   · intro hf; have := hlt _ hf; omega
 · rcases t2 with rfl | e
   · exact h.w2
   · omega
 · rcases t3 with rfl | e
   · exact h.w3
   · omega
 · rcases t2 with rfl | e
   · exact h.ll
   · omega
 · rcases t3 with rfl | e
   · exact h.ls
   · omega
 · rintro k (rfl | rfl | rfl)
   · exact h.lr
   · exact h.ll
   · exact h.ls
theorem Pair.of_made {w1 : World} (ha : Made w w1 wp tp sp qp A) (hr : RfAt W rp lb cap sb r) (hl : w1.heap.size ≤ rp ∧ w1.heap.size ≤ lb ∧ w1.heap.size ≤ sb) (hb : Below w1.heap.size w1 W) (hg : 0 < w.heap.size) : Pair w W wp tp sp qp A rp r := by
 obtain ⟨a1, ⟨FA, a2, a3, a4⟩, a5, a6⟩ := ha
 have hs := a6.size
 have hla := block_lt a1
 have hlt := a2.lt
 have key : ∀ k, w1.heap.size ≤ k → ¬ FA k := fun k hk hf => by have := hlt k hf; omega
 exact ⟨FA, lb, cap, sb, ⟨(hb.block _ hla).trans a1, a2.below hb, hr, a3, a4, key _ hl.1, key _ hl.2.1, key _ hl.2.2, by omega, by omega, by omega, a5, by omega, by omega, by omega, Below.later a6 hb hs, hg⟩⟩
theorem Pair.cells (h : Pair w W wp tp sp qp A rp r) : W.cell? ⟨wp, 0, none⟩ = some (.pointer (some ⟨sp, 0, none⟩)) ∧ W.cell? ⟨wp, 1, none⟩ = some (.pointer (some ⟨qp, 0, none⟩)) ∧ W.cell? ⟨wp, 2, none⟩ = some (.pointer (some ⟨tp, 0, none⟩)) := by
 obtain ⟨FT, lb, cap, sb, h⟩ := h
 obtain ⟨x0, x1, x2, _⟩ := row3 h.box
 exact ⟨x0, x1, x2⟩
theorem pair_feed (h : Pair w W wp tp sp qp A rp r) (l : List UInt8) (hl : l.length ≤ 100000) : Calls Tryz.prog 13 #[.pointer (some ⟨tp, 0, none⟩), .string ⟨l.toArray⟩] W fun e w' => e = .returned (.tuple #[]) ∧ Pair w w' wp tp sp qp (feedA A l) rp r := by
 obtain ⟨FT, lb, cap, sb, h⟩ := h
 exact (term_feed h.t l hl).mono fun e w' h' => ⟨h'.1, h.left h'.2⟩
theorem pair_drop (h : Pair w W wp tp sp qp A rp r) : Calls Tryz.prog 18 #[.pointer (some ⟨tp, 0, none⟩)] W fun e w' => e = .returned (.tuple #[]) ∧ Pair w w' wp tp sp qp { A with seq := [] } rp r := by
 obtain ⟨FT, lb, cap, sb, h⟩ := h
 exact (tm_drop h.t).mono fun e w' h' => ⟨h'.1, h.left h'.2⟩
theorem pair_reset (h : Pair w W wp tp sp qp A rp r) : Calls Tryz.prog 17 #[.pointer (some ⟨tp, 0, none⟩)] W fun e w' => e = .returned (.tuple #[]) ∧ Pair w w' wp tp sp qp (resetA A) rp r := by
 obtain ⟨FT, lb, cap, sb, h⟩ := h
 exact (tm_reset h.t).mono fun e w' h' => ⟨h'.1, h.left h'.2⟩
theorem tm_drain {w : World} {tp sp qp : Nat} {FT : Nat → Prop} {A : Ad} (h : Term w tp sp qp FT A) : Calls Tryz.prog 15 #[.pointer (some ⟨qp, 0, none⟩)] w fun e w' => e = .returned (.string ⟨A.q.toArray⟩) ∧ TermTo w w' tp sp qp FT { A with q := [], over := false } := by
 obtain ⟨lb, fr, F, V, h2, hF⟩ := h
 exact (que_drain qp lb fr A.q A.over w h2.que).mono fun e w' h' => ⟨h'.1, Term.queTo h2 hF h'.2⟩
theorem pair_drain (h : Pair w W wp tp sp qp A rp r) : Calls Tryz.prog 15 #[.pointer (some ⟨qp, 0, none⟩)] W fun e w' => e = .returned (.string ⟨A.q.toArray⟩) ∧ Pair w w' wp tp sp qp { A with q := [], over := false } rp r := by
 obtain ⟨FT, lb, cap, sb, h⟩ := h
 exact (tm_drain h.t).mono fun e w' h' => ⟨h'.1, h.left h'.2⟩
theorem Pair.okQ (h : Pair w W wp tp sp qp A rp r) : okSeq A.seq ∧ A.q.length ≤ 20 := by
 obtain ⟨FT, lb, cap, sb, h⟩ := h
 obtain ⟨lb, fr, F, V, h2, hF⟩ := h.t
 exact ⟨h2.ok, h2.que.len⟩
theorem pair_byte (h : Pair w W wp tp sp qp A rp r) {B : Ad} (hR : Rel B r) (hB : okSeq B.seq ∧ B.q.length ≤ 20) (b : UInt8) : Calls Tryz.prog 28 #[.pointer (some ⟨rp, 0, none⟩), .int .u8 (b.toNat : Int)] W fun e w' => e = .returned (.tuple #[]) ∧ Pair w w' wp tp sp qp A rp (byteR r b) := by
 obtain ⟨FT, lb, cap, sb, h⟩ := h
 have hs : okSeq r.seq := hR.seq ▸ hB.1
 exact (rf_byte h.r hR.may (hR.q ▸ hB.2) hs b (hR.byte hs b).2).mono fun e w' h' => ⟨h'.1, h.right h'.2⟩
theorem pair_rreset (h : Pair w W wp tp sp qp A rp r) (hm : r.may) : Calls Tryz.prog 29 #[.pointer (some ⟨rp, 0, none⟩)] W fun e w' => e = .returned (.tuple #[]) ∧ Pair w w' wp tp sp qp A rp (resetR r) := by
 obtain ⟨FT, lb, cap, sb, h⟩ := h
 exact (rf_reset h.r hm).mono fun e w' h' => ⟨h'.1, h.right h'.2⟩
theorem Pair.rcells (h : Pair w W wp tp sp qp A rp r) : W.cell? ⟨rp, 9, none⟩ = some (.string ⟨r.seq.toArray⟩) ∧ W.cell? ⟨rp, 10, none⟩ = some (.string ⟨r.q.toArray⟩) ∧ W.frozen? ⟨rp, 9, none⟩ = false := by
 obtain ⟨FT, lb, cap, sb, h⟩ := h
 obtain ⟨⟨y0, y1, y2, y3, y4, y5, y6, y7, y8, y9, y10, y11, y12⟩, f2, f3, f4, f5, f6, f7, f8, f9, f10, f12⟩ := h.r.cells
 exact ⟨y9, y10, f9⟩
theorem Pair.rdrop (h : Pair w W wp tp sp qp A rp r) : Pair w (W.setCell ⟨rp, 9, none⟩ (.string ⟨#[]⟩)) wp tp sp qp A rp { r with seq := [] } := by
 obtain ⟨FT, lb, cap, sb, h⟩ := h
 exact h.right (h.r.seqTo [])
theorem Rel.reset (h : Rel A r) : Rel (resetA A) (resetR r) := by
 obtain ⟨m1, m2, m3, m4, _⟩ := h.mm
 have h1 := (((h.noStops.setGd false).setPr false).setAttr 0).setSeq []
 have h2 := h1.wipeAll
 have hn := h.may.n
 have e : homeR { r with T := fun _ => false, gd := false, pr := false, attr := 0, seq := [] } = goToR (clearR { r with T := fun _ => false, gd := false, pr := false, attr := 0, seq := [] } 0 (r.R * r.C - 1)) 0 := rfl
 have hX := h2.X
 refine ⟨⟨m1.1, h.may.2.1, m2.1, h.may.2.2.2.1, by show 0 < r.R; omega, by show 0 < r.C; omega⟩, h2.R, h2.C, fun i j hi hj => ?_, ?_, h2.T, rfl, rfl, rfl, rfl, h.q, h.over, h.most⟩
 · have hlt : i * r.C + j < r.R * r.C := lin_n (i := i) (j := j) (R := r.R) (C := r.C) hi hj
   refine (hX i j hi hj).trans (if_pos ⟨Nat.zero_le _, ?_, fun e => absurd (show false = true from e.1) (by decide)⟩)
   show i * r.C + j ≤ r.R * r.C - 1
   omega
 · refine h2.pl.trans ?_
   show Vz.Pl.mk ⟨((0 / r.C : Nat) : Int), ((0 % r.C : Nat) : Int)⟩ false = ⟨⟨((0 : Nat) : Int), ((0 : Nat) : Int)⟩, false⟩
   rw [Nat.zero_div, Nat.zero_mod]
end
end
end Go.Proofs.YtncgigapgklhcaaGreatDoor
