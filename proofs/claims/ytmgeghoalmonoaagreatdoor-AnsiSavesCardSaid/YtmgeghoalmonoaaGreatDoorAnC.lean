import Derived.Test.YtmgeghoalmonoaaGreatDoorAnA
import Derived.Test.YtmgeghoalmonoaaGreatDoorKeySet
import Derived.Test.YtmgeghoalmonoaaGreatDoorRemP

/- Walks of ANSI.SYS: a byte for the buffer, Drop, ends, told. -/
namespace Go.Proofs.YtmgeghoalmonoaaGreatDoor
open Go.RowKit
set_option linter.unusedSimpArgs false
set_option linter.unusedVariables false
set_option maxRecDepth 100000
attribute [local go_sem] alloc_drewN setCell_drewN World.cell?_alloc_some frozen_alloc_some

set_option maxHeartbeats 2000000 in
theorem put_at (g : Nat) (v : Value) (l : List UInt8) (lost : Int) (x : UInt8) (w : World) (h : Buf 0 w g v l 61 lost) (hm : l.length < 61) :
    Calls Tryz.prog 64 #[.pointer (some ⟨g, 0, none⟩), .int .u8 x.toNat] w fun e w' => e = .returned (.bool true) ∧ BufTo w w' g v (l ++ [x]) lost := by
  obtain ⟨i0, hi, hz0, hz1, hz2⟩ := info_parts infoU8
  obtain ⟨A, c, rfl⟩ := ownsRow_slice h.2.2
  obtain ⟨c0, c1, c2⟩ := h.cell
  have f0 := frozen_row h.2.1 0
  have hmx : l.length + 1 ≤ maxLen := by unfold maxLen; omega
  have hmz : (l.length : Int) < 61 := by omega
  have H := Lib.hid h
  clear h
  go_enter Tryz.func64, Tryz.ntmps64
  go_wp2
  go_quiet (fail)
  have o0 : (w.drewN nq).ownsRow 0 5 1 (.slice A l.length c) l.length (bytesV l) := H.out.2.2
  go_wp2_with (at_builtin; refine wpList_append_own_at _ rfl _ _ 80 rfl 0 5 i0 (.int .u8 0) 1 1 Tryz.underlying80 hi hz0 hz1 hz2 rfl (by decide) _ _ _ rfl (o0.alloc _) ⟨w.heap.size, 0, none⟩ 1 1 [.int .u8 x.toNat] rfl rfl (cell_one_new _ _ _) (by simp [Value.oneCell']) hmx (by omega) (by simp) ?_; intro v' w1 hown' hgrow _ hat; obtain ⟨g', cap', rfl⟩ := ownsRow_succ hown'; have hg1 := buf_grown H.out nq _ hgrow; have hc1 : w1.cell? ⟨g, 0, none⟩ = some (.slice A l.length c) := (by rw [cell_of_row w1 g 0 _ _ _ hg1]; rfl); have hf1 := frozen_row hg1 0)
  go_ret
  have hb := H.out
  have hne : g' ≠ g := fun e => by
    subst e
    rcases hown'.2 with ⟨e, _⟩ | ⟨g2, cap2, cur2, e, _, hgg, _⟩
    · cases e
    · injection e with e1
      injection e1 with e1
      injection e1 with e1
      subst e1
      rw [hg1] at hgg
      injection hgg with hgg
      injection hgg with _ ht
      exact absurd ht (by decide)
  have hsz : w.heap.size ≤ w1.heap.size := by have := hgrow.size; simp [World.drewN] at this; omega
  refine ⟨rfl, ⟨.slice (some ⟨g', 0, none⟩) (l.length + 1) cap', ⟨hb.1, heap_set_same hg1 0 _, ?_⟩, ?_⟩, ⟨?_, ?_, ?_, ?_, ?_⟩⟩
  · have := hown'.kept (grownBy_setCell' w1 g (.slice (some ⟨g', 0, none⟩) (l.length + 1) cap')) (.inr (by simpa [Value.ownBlock] using hne))
    simpa [bytesV] using this
  · intro k hk
    rcases hat with e | e
    · exact .inl (e.symm.trans hk)
    · rw [e] at hk
      injection hk with hk
      exact .inr (by rw [← hk]; simp [World.drewN])
  · exact hgrow.os
  · exact hgrow.tape
  · exact hgrow.output
  · simpa [World.setCell] using hsz
  · intro k hk hn
    refine (Below.heap_setCell _ _ _ _ (fun e => hn (.inl e))).trans ((hgrow.block k (by simp [World.drewN]; omega) (fun e => hn (.inr e.symm))).trans (Below.heap_alloc (w.drewN nq) _ _ hk))
set_option maxHeartbeats 1000000 in
theorem push_at (g : Nat) (v : Value) (l : List UInt8) (lost : Nat) (x : UInt8) (w : World) (h : Buf 0 w g v l 61 lost) (hl : l.length ≤ 61) (h1 : lost ≤ 100000) :
    Calls Tryz.prog 47 #[.pointer (some ⟨g, 0, none⟩), .int .u8 x.toNat] w fun e w' => (∃ u, e = .returned u) ∧ BufTo w w' g v (if l.length < 61 then l ++ [x] else l) ((if l.length < 61 then lost else lost + 1 : Nat) : Int) := by
  by_cases hm : l.length < 61
  · rw [if_pos hm, if_pos hm]
    have H := Lib.hid (put_at g v l lost x w h hm)
    clear h
    go_enter Tryz.func47, Tryz.ntmps47
    go_wp2_with (go_at_call 64; refine H.out.mono ?_; rintro e w' ⟨rfl, hr⟩)
    go_ret
    exact ⟨⟨_, rfl⟩, hr⟩
  · rw [if_neg hm, if_neg hm]
    refine (push_full 0 g v l 61 lost x.toNat w h (by omega) (by omega) (by omega) (by omega)).mono ?_
    rintro e w' ⟨rfl, hb, hbel, hsz, hk⟩
    exact ⟨⟨_, rfl⟩, ⟨v, by rw [show ((lost + 1 : Nat) : Int) = (lost : Int) + 1 by omega]; exact hb, fun k hk => .inl hk⟩, ⟨hbel.os, hbel.tape, hbel.output, by omega, fun k _ hn => hk k (fun e => hn (.inl e))⟩⟩
section
variable {w w1 w2 : World} {P : Pt} {G G1 : Nat → Prop} {A A1 A2 : An}
theorem AnTo.link (hG : ∀ k, G1 k → G k ∨ w.heap.size ≤ k) (hK : Keeps G w w1) (h : AnTo w1 w2 P G1 A2) : AnTo w w2 P G A2 := by
  obtain ⟨⟨F'', h4, h5⟩, h6⟩ := h
  refine ⟨⟨F'', h4, fun k hk => ?_⟩, hK.trans h6 hG⟩
  rcases h5 k hk with hk | hk
  · exact hG k hk
  · exact .inr (Nat.le_trans hK.size hk)
theorem AnW.bufTo (h : AnW w P G A) : ∃ v, Buf 0 w P.fb v A.body 61 A.lost ∧ A.body.length ≤ 61 ∧ ∀ w' l (n : Nat), l.length ≤ 61 → BufTo w w' P.fb v l n → AnTo w w' P G { A with body := l, lost := n } := by
  obtain ⟨F, v, h, hG⟩ := h
  exact ⟨v, h.buf, h.len, fun _ _ _ hl hs => h.bufTo hG hl hs⟩
theorem AnW.keyTo (h : AnW w P G A) : (∃ used ov D, KeyAt w P.kp P.mb used ov D) ∧ ∀ w', KeyTo w w' P.kp P.mb → AnTo w w' P G A := by
  obtain ⟨F, v, h, hG⟩ := h
  exact ⟨h.key, fun _ hs => h.keyTo hG hs⟩
theorem AnW.queTo (h : AnW w P G A) : (∃ fr, QueAt w P.qp P.lb fr A.most A.q A.over) ∧ ∀ w' q over, QueTo w w' P.qp P.lb A.most q over → AnTo w w' P G { A with q := q, over := over } := by
  obtain ⟨F, v, h, hG⟩ := h
  exact ⟨h.que, fun _ _ _ hs => h.queTo hG hs⟩
theorem reset_at (g : Nat) (v : Value) (l : List UInt8) (lost : Int) (w : World) (h : Buf 0 w g v l 61 lost) :
    Calls Tryz.prog 34 #[.pointer (some ⟨g, 0, none⟩)] w fun e w' => (∃ u, e = .returned u) ∧ BufTo w w' g v [] ((0 : Nat) : Int) := by
  refine (reset_any 0 g v l 61 lost w h).mono ?_
  rintro e w' ⟨he, hb, hbel, hsz, hk⟩
  exact ⟨he, ⟨_, hb, fun k hk => by simp [Value.ownBlock] at hk⟩, ⟨hbel.os, hbel.tape, hbel.output, by omega, fun k _ hn => hk k (fun e => hn (.inl e))⟩⟩
set_option maxHeartbeats 2000000 in
theorem an_drop (h : AnW w P G A) : Calls Tryz.prog 19 #[.pointer (some ⟨P.tp, 0, none⟩)] w fun e w' => e = .returned (.tuple #[]) ∧ AnTo w w' P G (dropN A) := by
  have hb := h.boxed (A' := { A with st := 0, quo := 0 }) rfl rfl rfl rfl rfl rfl (heap_set_same (heap_set_same h.box 7 (.int .i64 0)) 9 (.int .u8 0)) ((Keeps.setCell (fun k => k = P.tp) w (p := ⟨P.tp, 7, none⟩) rfl (.int .i64 0)).setCell' (p := ⟨P.tp, 9, none⟩) rfl (.int .u8 0))
  obtain ⟨⟨_, _, _, _, _, _, _, s7, s8, s9⟩, _, _, _, _, f7, f9⟩ := h.cells
  obtain ⟨W1, hW1⟩ : ∃ W, W = (w.setCell ⟨P.tp, 7, none⟩ (.int .i64 0)).setCell ⟨P.tp, 9, none⟩ (.int .u8 0) := ⟨_, rfl⟩
  rw [← hW1] at hb
  obtain ⟨⟨G1, h1, hg1⟩, hk1⟩ := hb
  have HG := Lib.hid hg1
  have HK := Lib.hid hk1
  have H1 := Lib.hid h1
  clear hg1 hk1 h1 h
  obtain ⟨v, hbuf, hlen, hto⟩ := H1.out.bufTo
  have HR := Lib.hid (reset_at P.fb v _ _ W1 hbuf)
  have HTO := Lib.hid hto
  clear hbuf hto
  obtain ⟨⟨_, _, _, _, _, _, _, _, z8, _⟩, _⟩ := H1.out.cells
  go_enter Tryz.func19, Tryz.ntmps19
  go_upto_region 2 with fail
  rw [← hW1]
  clear hW1 s7 s8 s9 f7 f9
  go_wp2_with (go_at_call 34; refine HR.out.mono ?_; rintro e w3 ⟨⟨u, rfl⟩, ht⟩; have HT := Lib.hid (HTO.out _ _ _ (Nat.zero_le _) ht); clear ht)
  go_end0
  exact ⟨rfl, AnTo.link HG.out HK.out HT.out⟩
/-- What ends makes. -/
def endsN (A : An) (b : UInt8) : An := if ¬ A.quo = 0 then (if b = A.quo then { A with quo := 0 } else A) else if b = 34 ∨ b = 39 then { A with quo := b } else A
def endsB (A : An) (b : UInt8) : Bool := decide (A.quo = 0 ∧ ¬ (b = 34 ∨ b = 39) ∧ 64 ≤ b.toNat ∧ b.toNat ≤ 126)
set_option maxHeartbeats 2000000 in
theorem an_told (h : AnW w P G A) (s : ByteArray) (hs : s.size ≤ 1000) : Calls Tryz.prog 75 #[.pointer (some ⟨P.tp, 0, none⟩), .string s] w fun e w' => e = .returned (.tuple #[]) ∧ AnTo w w' P G A := by
  have HA := Lib.hid (fun W (hb : Below w.heap.size w W) => h.below hb)
  have HPA := Lib.hid (parse_ok s hs w)
  clear h
  go_enter Tryz.func75, Tryz.ntmps75
  go_upto_region 1 with (go_at_call 94; refine HPA.out.mono ?_; rintro e w1 ⟨hb1, b, n, t, er, rfl, ht, hn⟩; have HB1 := Lib.hid hb1; clear hb1)
  have HX : Hid (Below w.heap.size w (w1.alloc (.cells #[.bool b, .int .i64 n] 58)) ∧ (w1.alloc (.cells #[.bool b, .int .i64 n] 58)).heap[w1.heap.size]? = some (.cells #[.bool b, .int .i64 n] 58 (0, 0))) := ⟨HB1.out.alloc HB1.out.size _, heap_alloc_new w1 _⟩
  generalize w1.alloc (.cells #[.bool b, .int .i64 n] 58) = W2 at HX ⊢
  generalize w1.heap.size = x at HX ⊢
  cases he : (er == 0)
  · go_wp2_with fail
    go_end0
    exact ⟨rfl, AnTo.after HX.out.1 (AnTo.refl (HA.out _ HX.out.1))⟩
  · go_upto_region 2 with fail
    have HXD : Hid (Below w.heap.size w W2.drew ∧ W2.drew.heap[x]? = some (.cells #[.bool b, .int .i64 n] 58 (0, 0))) := ⟨HX.out.1.drew, HX.out.2⟩
    refine wp_region_noPanic ?_
    refine wp_region_k (S := fun W : World => Below w.heap.size w W ∧ W.heap[x]? = some (.cells #[.bool b, .int .i64 n] 58 (0, 0))) 6 (by kernel_rfl) (HXD.out) (fun hHeld => ?_)
    refine kSK 0 hHeld ?_
    refine kSK 1 hHeld ?_
    refine kSK 2 hHeld ?_
    refine kTK (v := ?_) 3 [] hHeld ?y4 ?_
    case y4 => (intro W hSw; obtain ⟨⟨_, _, y2, _⟩, _⟩ := (HA.out _ hSw.1).cells; obtain ⟨p0, p1, _⟩ := row2 hSw.2; go_simp; try with_reducible rfl)
    refine kTK (v := ?_) 4 [] hHeld ?y5 ?_
    case y5 => (intro W hSw; obtain ⟨⟨_, _, y2, _⟩, _⟩ := (HA.out _ hSw.1).cells; obtain ⟨p0, p1, _⟩ := row2 hSw.2; go_simp; try with_reducible rfl)
    try refine kNK ?_
    refine kSK 5 hHeld ?_
    try refine kNK ?_
    refine kPK 6 fun KQ hKQ => ?_
    go_simp
    go_at_call 95
    obtain ⟨⟨used, ov, D, hk⟩, hto⟩ := (HA.out _ HXD.out.1).keyTo
    refine (kset_any P.kp P.mb used ov D b n (by simp [Lit.wf, IntKind.min, IntKind.max, IntKind.signed, IntKind.bits]; omega) t ht _ hk).mono ?_
    rintro e w3 ⟨⟨u, rfl⟩, hk3⟩
    have HT := Lib.hid (AnTo.after HXD.out.1 (hto _ hk3))
    clear hk hto hk3
    go_wp2_with fail
    refine hKQ.out _ _ ?_
    clear hKQ KQ
    try refine kNK ?_
    refine wpAnyK_done (by kernel_rfl) ?_ _
    refine NoPanic.normal ?_
    go_wp2_with fail
    go_end0
    exact ⟨rfl, HT.out⟩
set_option maxHeartbeats 2000000 in
theorem an_ends (h : AnW w P G A) (b : UInt8) : Calls Tryz.prog 46 #[.pointer (some ⟨P.tp, 0, none⟩), .int .u8 b.toNat] w fun e w' => e = .returned (.bool (endsB A b)) ∧ AnTo w w' P G (endsN A b) := by
  have key : ∀ n : Nat, n < 256 → ¬ b = UInt8.ofNat n → ∀ z : Int, z = (n : Int) → ((b.toNat : Int) == z) = false := fun n hn hne z hz => beq_eq_false_iff_ne.2 (fun e => hne (UInt8.toNat_inj.1 (by rw [UInt8.toNat_ofNat_of_lt' hn]; exact Int.ofNat_inj.1 (e.trans hz))))
  have keyQ : ∀ c d : UInt8, ¬ c = d → ((c.toNat : Int) == (d.toNat : Int)) = false := fun c d hne => beq_eq_false_iff_ne.2 (fun e => hne (UInt8.toNat_inj.1 (Int.ofNat_inj.1 e)))
  have HBX := Lib.hid (fun q : UInt8 => h.boxed (A' := { A with quo := q }) rfl rfl rfl rfl rfl rfl (heap_set_same h.box 9 (.int .u8 q.toNat)) (Keeps.setCell (fun k => k = P.tp) w (p := ⟨P.tp, 9, none⟩) rfl (.int .u8 q.toNat)))
  have HRE := Lib.hid (AnTo.refl h)
  obtain ⟨⟨_, _, _, _, _, _, _, _, _, s9⟩, _, _, _, _, _, f9⟩ := h.cells
  clear h
  by_cases hq : A.quo = 0
  · have hq0 : (((0 : UInt8).toNat : Int)) = 0 := rfl
    have HQ := Lib.hid hq
    rw [hq, hq0] at s9
    clear hq hq0
    have HN1 : Hid (b = 34 ∨ b = 39 → endsN A b = { A with quo := b } ∧ endsB A b = false) := fun hb => ⟨by unfold endsN; rw [if_neg (fun h => h HQ.out), if_pos hb], decide_eq_false (fun h => h.2.1 hb)⟩
    have HN2 : Hid (¬ (b = 34 ∨ b = 39) → endsN A b = A ∧ endsB A b = decide (64 ≤ b.toNat ∧ b.toNat ≤ 126)) := fun hb => ⟨by unfold endsN; rw [if_neg (fun h => h HQ.out), if_neg hb], decide_eq_decide.2 ⟨fun h => h.2.2, fun h => ⟨HQ.out, hb, h⟩⟩⟩
    by_cases hb1 : b = 34
    · have HN3 := Lib.hid (HN1.out (.inl hb1))
      subst hb1
      have HB := Lib.hid (HBX.out 34)
      clear HN1 HN2
      go_enter Tryz.func46, Tryz.ntmps46
      go_wp2_with fail
      go_ret
      rw [HN3.out.1, HN3.out.2]
      exact ⟨rfl, HB.out⟩
    by_cases hb2 : b = 39
    · have HN3 := Lib.hid (HN1.out (.inr hb2))
      subst hb2
      have HB := Lib.hid (HBX.out 39)
      clear HN1 HN2
      go_enter Tryz.func46, Tryz.ntmps46
      go_wp2_with fail
      go_ret
      rw [HN3.out.1, HN3.out.2]
      exact ⟨rfl, HB.out⟩
    have k1 := key 34 (by decide) hb1 34 rfl
    have k2 := key 39 (by decide) hb2 39 rfl
    have HN3 := Lib.hid (HN2.out (fun h => h.elim hb1 hb2))
    clear HN1 HN2 key keyQ hb1 hb2
    by_cases h64 : 64 ≤ b.toNat
    · have g1 : (64 : Int) ≤ (b.toNat : Int) := by omega
      by_cases h126 : b.toNat ≤ 126
      · have g2 : (b.toNat : Int) ≤ 126 := by omega
        have HD : Hid (decide (64 ≤ b.toNat ∧ b.toNat ≤ 126) = true) := decide_eq_true ⟨h64, h126⟩
        clear h64 h126
        go_enter Tryz.func46, Tryz.ntmps46
        go_wp2_with fail
        go_ret
        rw [HN3.out.1, HN3.out.2, HD.out]
        exact ⟨rfl, HRE.out⟩
      · have g2 : ¬ (b.toNat : Int) ≤ 126 := by omega
        have HD : Hid (decide (64 ≤ b.toNat ∧ b.toNat ≤ 126) = false) := decide_eq_false (fun h => h126 h.2)
        clear h64 h126
        go_enter Tryz.func46, Tryz.ntmps46
        go_wp2_with fail
        go_ret
        rw [HN3.out.1, HN3.out.2, HD.out]
        exact ⟨rfl, HRE.out⟩
    · have g1 : ¬ (64 : Int) ≤ (b.toNat : Int) := by omega
      have HD : Hid (decide (64 ≤ b.toNat ∧ b.toNat ≤ 126) = false) := decide_eq_false (fun h => h64 h.1)
      clear h64
      go_enter Tryz.func46, Tryz.ntmps46
      go_wp2_with fail
      go_ret
      rw [HN3.out.1, HN3.out.2, HD.out]
      exact ⟨rfl, HRE.out⟩
  · have k1 : ((A.quo.toNat : Int) != 0) = true := bne_iff_ne.2 (fun e => hq (UInt8.toNat_inj.1 (Int.ofNat_inj.1 e)))
    have HN : Hid (endsN A b = (if b = A.quo then { A with quo := 0 } else A) ∧ endsB A b = false) := ⟨by unfold endsN; rw [if_pos hq], decide_eq_false (fun h => hq h.1)⟩
    by_cases hb : b = A.quo
    · have HN3 : Hid (endsN A b = { A with quo := 0 }) := by show endsN A b = _; rw [HN.out.1, if_pos hb]
      have HB := Lib.hid (HBX.out 0)
      rw [← hb] at s9 k1
      clear hb
      go_enter Tryz.func46, Tryz.ntmps46
      go_wp2_with fail
      go_ret
      rw [HN3.out, HN.out.2]
      exact ⟨rfl, HB.out⟩
    · have HN3 : Hid (endsN A b = A) := by show endsN A b = _; rw [HN.out.1, if_neg hb]
      have k2 := keyQ b A.quo hb
      clear hb key keyQ
      go_enter Tryz.func46, Tryz.ntmps46
      go_wp2_with fail
      go_ret
      rw [HN3.out, HN.out.2]
      exact ⟨rfl, HRE.out⟩
end
end Go.Proofs.YtmgeghoalmonoaaGreatDoor
