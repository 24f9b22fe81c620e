import Derived.Test.YtmgeghoalmonoaaGreatDoorAnE
import Derived.Test.YtmgeghoalmonoaaGreatDoorRM
import Derived.Test.YtmgeghoalmonoaaGreatDoorRS
import Derived.Test.YtmgeghoalmonoaaGreatDoorShelfS

/- Walks of ANSI.SYS: attributes, report, wraps. -/
namespace Go.Proofs.YtmgeghoalmonoaaGreatDoor
open Go.RowKit
set_option linter.unusedSimpArgs false
set_option linter.unusedVariables false
set_option maxRecDepth 100000
attribute [local go_sem] alloc_drewN setCell_drewN World.cell?_alloc_some frozen_alloc_some pos_f1

section
variable {w : World} {P : Pt} {G : Nat → Prop} {A : An} {v : Value} {l : List Int}
/-- A captured bool. -/
def CapB (w : World) (c : Nat) (b : Bool) : Prop := w.heap[c]? = some (.cells #[.bool b] 4 (0, 0))
set_option maxHeartbeats 4000000 in
theorem an_wraps {c : Nat} {b : Bool} (h : AnW w P G A) (hc : CapB w c b) (s : List UInt8) : Calls Tryz.prog 93 #[.pointer (some ⟨P.tp, 0, none⟩), .string ⟨s.toArray⟩, .pointer (some ⟨c, 0, none⟩)] w fun e w' => e = .returned (.tuple #[]) ∧ AnTo w w' P G (if s = [61, 55] ∨ s = [63, 55] then { A with wrap := b } else A) := by
  have HBX := Lib.hid (h.boxed (A' := { A with wrap := b }) rfl rfl rfl rfl rfl rfl (heap_set_same h.box 4 (.bool b)) (Keeps.setCell (fun k => k = P.tp) w (p := ⟨P.tp, 4, none⟩) rfl (.bool b)))
  have HRE := Lib.hid (AnTo.refl h)
  obtain ⟨⟨_, _, _, _, s4, _⟩, _, f4, _⟩ := h.cells
  have cb := cell_row hc 0
  clear h hc
  by_cases h1 : s = [61, 55]
  · rw [if_pos (.inl h1)]
    subst h1
    go_enter Tryz.func93, Tryz.ntmps93
    go_wp2_with fail
    go_end0
    exact ⟨rfl, HBX.out⟩
  by_cases h2 : s = [63, 55]
  · rw [if_pos (.inr h2)]
    subst h2
    go_enter Tryz.func93, Tryz.ntmps93
    go_wp2_with fail
    go_end0
    exact ⟨rfl, HBX.out⟩
  · rw [if_neg (fun h => h.elim h1 h2)]
    have k1 : (s == [61, 55]) = false := beq_eq_false_iff_ne.2 h1
    have k2 : (s == [63, 55]) = false := beq_eq_false_iff_ne.2 h2
    clear h1 h2
    go_enter Tryz.func93, Tryz.ntmps93
    go_wp2_with fail
    go_end0
    exact ⟨rfl, HRE.out⟩
theorem dec_len : ∀ r : Fin 100, (Lib.decDigits r.val).length ≤ 2 := by decide +kernel
/-- The screen is small: numbers of two digits. -/
def SmallA (A : An) : Prop := A.S.D.R ≤ 98 ∧ A.S.D.C ≤ 98
set_option maxHeartbeats 4000000 in
theorem an_report (h : AnW w P G A) (hsm : SmallA A) (hn : NumsAt w v l) (hb : NumB l) : Calls Tryz.prog 73 #[.pointer (some ⟨P.tp, 0, none⟩), v] w fun e w' => e = .returned (.tuple #[]) ∧ AnTo w w' P G (if orN l 0 0 = 6 then pushN A (replyN A.S.pl.at_.row A.S.pl.at_.col) else A) := by
  have HA := Lib.hid (fun W (hb : Below w.heap.size w W) => h.below hb)
  have HOR := Lib.hid (or_ok 0 (by decide) 0 w hn hb.1)
  have HAT := Lib.hid (an_at h)
  have HRE := Lib.hid (AnTo.refl h)
  have hin := h.here.1
  unfold Vz.Ps.inS at hin
  have hr : ∃ r : Nat, A.S.pl.at_.row + 1 = (r : Int) ∧ r < 100 := ⟨(A.S.pl.at_.row + 1).toNat, by omega, by have := hsm.1; omega⟩
  have hc : ∃ c : Nat, A.S.pl.at_.col + 1 = (c : Int) ∧ c < 100 := ⟨(A.S.pl.at_.col + 1).toNat, by omega, by have := hsm.2; omega⟩
  obtain ⟨r, hr, hr2⟩ := hr
  obtain ⟨c, hc, hc2⟩ := hc
  have e1 : IntKind.i64.wrap (A.S.pl.at_.row + 1) = (r : Int) := by rw [hr]; exact wrap_in (by omega) (by omega)
  have e2 : IntKind.i64.wrap (A.S.pl.at_.col + 1) = (c : Int) := by rw [hc]; exact wrap_in (by omega) (by omega)
  have HRP : Hid (replyN A.S.pl.at_.row A.S.pl.at_.col = [27, 91] ++ Lib.decDigits r ++ [59] ++ Lib.decDigits c ++ [82]) := by show replyN _ _ = _; unfold replyN; rw [hr, hc]; rfl
  have HIR := Lib.hid (fun W => Tryz.strconv_Itoa_small r hr2 W)
  have HIC := Lib.hid (fun W => Tryz.strconv_Itoa_small c hc2 W)
  have hdr := dec_len ⟨r, hr2⟩
  have hdc := dec_len ⟨c, hc2⟩
  simp only at hdr hdc
  clear h hn hb hin hr hc hr2 hc2 hsm
  have HLE : Hid ((replyN A.S.pl.at_.row A.S.pl.at_.col).length ≤ 1000000) := by show _ ≤ _; rw [HRP.out]; simp only [List.length_append, List.length_cons, List.length_nil]; omega
  have HSTR : Hid ((({ data := #[27, 91] } : ByteArray) ++ { data := (Lib.decDigits r).toArray } ++ { data := #[59] } ++ { data := (Lib.decDigits c).toArray } ++ { data := #[82] }) = ⟨(replyN A.S.pl.at_.row A.S.pl.at_.col).toArray⟩) := by show _ = _; rw [HRP.out]; exact ByteArray.ext (by simp)
  generalize Lib.decDigits r = dr at *
  generalize Lib.decDigits c = dc at *
  have g1 : ¬ 9223372036854775807 < 2 + dr.length := by omega
  have g2 : ¬ 9223372036854775807 < 2 + dr.length + 1 := by omega
  have g3 : ¬ 9223372036854775807 < 2 + dr.length + 1 + dc.length := by omega
  have g4 : ¬ 9223372036854775807 < 2 + dr.length + 1 + dc.length + 1 := by omega
  obtain ⟨x, hx⟩ : ∃ x, orN l 0 0 = x := ⟨_, rfl⟩
  rw [hx] at HOR ⊢
  clear hx
  go_enter Tryz.func73, Tryz.ntmps73
  by_cases hx : x = 6
  · rw [if_pos hx]
    subst hx
    go_upto_region 2 with (first | (go_at_call 87; refine HOR.out.mono ?_; rintro e w1 ⟨rfl, rfl⟩) | (go_at_call 50; refine HAT.out.mono ?_; rintro e w2 ⟨rfl, hb2⟩; have HB2 := Lib.hid hb2; clear hb2))
    have HX : Hid (AtB w1 A.S.pl.at_ w2.heap.size (w2.alloc (.cells #[.int .i64 A.S.pl.at_.row, .int .i64 A.S.pl.at_.col] 39))) := AtX.new HB2.out _
    generalize w2.alloc (.cells #[.int .i64 A.S.pl.at_.row, .int .i64 A.S.pl.at_.col] 39) = W2 at HX ⊢
    generalize w2.heap.size = y at HX ⊢
    have HXD : Hid (AtB w1 A.S.pl.at_ y W2.drew) := HX.out.below (Below.refl _ _).drew
    refine wp_region_noPanic ?_
    refine wp_region_k (S := fun W : World => AtB w1 A.S.pl.at_ y W) 17 (by kernel_rfl) (HXD.out) (fun hHeld => ?_)
    refine kSK 0 hHeld ?_
    refine kSK 1 hHeld ?_
    refine kSK 2 hHeld ?_
    refine kTK (v := ?_) 3 [] hHeld ?y4 ?_
    case y4 => (intro W hSw; obtain ⟨⟨_, y1, _⟩, _⟩ := (HA.out _ hSw.1).cells; obtain ⟨p0, p1, _⟩ := row2 hSw.2.1; go_simp; try with_reducible rfl)
    refine kSK 4 hHeld ?_
    try refine kNK ?_
    refine kTK (v := ?_) 5 [13, 7, 6] hHeld ?y6 ?_
    case y6 => (intro W hSw; obtain ⟨⟨_, y1, _⟩, _⟩ := (HA.out _ hSw.1).cells; obtain ⟨p0, p1, _⟩ := row2 hSw.2.1; go_simp; try with_reducible rfl)
    refine kSK 6 hHeld ?_
    refine kSK 10 hHeld ?_
    refine kTK (v := ?_) 11 [13, 12] hHeld ?y9 ?_
    case y9 => (intro W hSw; obtain ⟨⟨_, y1, _⟩, _⟩ := (HA.out _ hSw.1).cells; obtain ⟨p0, p1, _⟩ := row2 hSw.2.1; go_simp; try with_reducible rfl)
    refine kSK 12 hHeld ?_
    try refine kNK ?_
    refine kOK 7 fun KQ hKQ => ?_
    go_simp
    go_at_call 92
    refine (HIR.out _).mono ?_
    rintro e w3 ⟨rfl, rfl⟩
    go_wp2_with fail
    refine hKQ.out _ _ (hHeld) ?_
    clear hHeld hKQ KQ
    intro hHeld
    try refine kNK ?_
    refine kSK 8 hHeld ?_
    refine kSK 9 hHeld ?_
    try refine kNK ?_
    refine kOK 13 fun KQ hKQ => ?_
    go_simp
    go_at_call 92
    refine (HIC.out _).mono ?_
    rintro e w3 ⟨rfl, rfl⟩
    go_wp2_with fail
    refine hKQ.out _ _ (hHeld) ?_
    clear hHeld hKQ KQ
    intro hHeld
    try refine kNK ?_
    refine kSK 14 hHeld ?_
    refine kSK 15 hHeld ?_
    try refine kNK ?_
    refine kOK 16 fun KQ hKQ => ?_
    go_simp
    refine hKQ.out _ _ (hHeld.below (below1 _ _)) ?_
    clear hHeld hKQ KQ
    intro hHeld
    try refine kNK ?_
    refine kPK 17 fun KQ hKQ => ?_
    go_simp
    have hstr := HSTR.out
    have hbk : (W2.alloc (.cells #[.string (({ data := #[27, 91] } : ByteArray) ++ { data := dr.toArray } ++ { data := #[59] } ++ { data := dc.toArray } ++ { data := #[82] })] 9)).drew.heap[W2.heap.size]? = some (.cells #[.string ⟨(replyN A.S.pl.at_.row A.S.pl.at_.col).toArray⟩] 9 (0, 0)) := by rw [hstr]; exact heap_alloc_new W2 _
    obtain ⟨⟨fr, hq⟩, hto⟩ := (HA.out _ hHeld.1).queTo
    obtain ⟨⟨fr2, hq2⟩, -⟩ := (HA.out _ HX.out.1).queTo
    go_at_call 91
    refine (que_push P.qp P.lb fr A.most A.q A.over W2.heap.size (replyN A.S.pl.at_.row A.S.pl.at_.col) _ hq hbk (fun e => by have := hq2.lt.1; omega) (fun e => by have := hq2.lt.2; omega) HLE.out).mono ?_
    rintro e w4 ⟨rfl, ht⟩
    have HT := Lib.hid (AnTo.after hHeld.1 (hto _ _ _ ht))
    clear ht hto hq hq2 hbk hstr
    go_wp2_with fail
    refine hKQ.out _ _ ?_
    clear hKQ KQ
    try refine kNK ?_
    refine wpAnyK_done (by kernel_rfl) ?_ _
    refine NoPanic.normal ?_
    go_wp2_with fail
    go_end0
    exact ⟨rfl, (show AnTo w1 w4 P G (pushN A (replyN A.S.pl.at_.row A.S.pl.at_.col)) from HT.out)⟩
  · rw [if_neg hx]
    have hx' : (x == 6) = false := beq_eq_false_iff_ne.2 hx
    clear hx
    go_wp2_with (go_at_call 87; refine HOR.out.mono ?_; rintro e w1 ⟨rfl, rfl⟩)
    go_end0
    exact ⟨rfl, HRE.out⟩
end
end Go.Proofs.YtmgeghoalmonoaaGreatDoor
