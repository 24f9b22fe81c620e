import Derived.Test.YtmgeghoalmonoaaGreatDoorAnJ
import Derived.Laws.EntriesVeiled

/- Walks of ANSI.SYS: sequence. -/
namespace Go.Proofs.YtmgeghoalmonoaaGreatDoor
open Go.RowKit
set_option linter.unusedSimpArgs false
set_option linter.unusedVariables false
set_option maxRecDepth 100000
attribute [local go_sem] alloc_drewN setCell_drewN World.cell?_alloc_some frozen_alloc_some pos_f1

section
variable {w : World} {P : Pt} {G : Nat → Prop} {A : An}
theorem AnW.lost (h : AnW w P G A) : A.body.length ≤ 61 := by
  obtain ⟨F, v, h, hG⟩ := h
  exact h.len
theorem AnW.bytes (h : AnW w P G A) : (Calls Tryz.prog 33 #[.pointer (some ⟨P.fb, 0, none⟩)] w fun e w' => e = .returned (.string ⟨A.body.toArray⟩) ∧ w = w') ∧ Calls Tryz.prog 48 #[.pointer (some ⟨P.fb, 0, none⟩)] w fun e w' => e = .returned (.int .i64 A.lost) ∧ w = w' := by
  obtain ⟨F, v, h, hG⟩ := h
  exact ⟨bytes_any 0 P.fb v A.body 61 A.lost w h.buf, lost_any 0 P.fb v A.body 61 A.lost w h.buf⟩
set_option maxHeartbeats 8000000 in
theorem an_seq (h : AnW w P G A) (hsm : SmallA A) (hlo : A.lost ≤ 90000) (b : UInt8) : Calls Tryz.prog 27 #[.pointer (some ⟨P.tp, 0, none⟩), .int .u8 b.toNat] w fun e w' => e = .returned (.tuple #[]) ∧ AnTo w w' P G (seqN A b) := by
  have HEN := Lib.hid (an_ends h b)
  have HSM := Lib.hid hsm
  have HLO := Lib.hid hlo
  clear h hsm hlo
  cases he : endsB A b with
  | false =>
    have hsq := seq_no he
    rw [hsq]
    rw [he] at HEN
    have hl2 : (endsN A b).lost = A.lost := by unfold endsN; split <;> split <;> rfl
    have HL2 : Hid ((endsN A b).lost ≤ 100000) := by show _ ≤ _; rw [hl2]; have := HLO.out; omega
    clear hl2 hsq he
    generalize endsN A b = A1 at *
    have HPUSH : Hid (∀ W G1, AnW W P G1 A1 → Calls Tryz.prog 47 #[.pointer (some ⟨P.fb, 0, none⟩), .int .u8 b.toNat] W fun e w' => (∃ u, e = .returned u) ∧ AnTo W w' P G1 (bodyN A1 b)) := by
      intro W G1 hW
      obtain ⟨v, hbuf, hlen, hto⟩ := hW.bufTo
      refine (push_at P.fb v A1.body A1.lost b W hbuf hlen HL2.out).mono ?_
      rintro e w' ⟨hu, ht⟩
      unfold bodyN
      by_cases hh : A1.body.length < 61
      · rw [if_pos hh]
        rw [if_pos hh, if_pos hh] at ht
        exact ⟨hu, hto w' _ _ (by simp only [List.length_append, List.length_cons, List.length_nil]; omega) ht⟩
      · rw [if_neg hh]
        rw [if_neg hh, if_neg hh] at ht
        exact ⟨hu, hto w' _ _ hlen ht⟩
    go_enter Tryz.func27, Tryz.ntmps27
    go_upto_region 1 with (go_at_call 46; refine HEN.out.mono ?_; rintro e w1 ⟨rfl, ht⟩; obtain ⟨⟨G1, h1, hg1⟩, hk1⟩ := ht; have H1 := Lib.hid h1; have HG1 := Lib.hid hg1; have HK1 := Lib.hid hk1; clear h1 hg1 hk1)
    obtain ⟨⟨_, _, _, _, _, _, _, _, y8, _⟩, _⟩ := H1.out.cells
    go_wp2_with (go_at_call 47; refine (HPUSH.out w1 G1 H1.out).mono ?_; rintro e w2 ⟨⟨u, rfl⟩, ht⟩; have HT := Lib.hid ht; clear ht)
    try simp only [Exit.inBlock, Exit.then]
    refine bodyPost_ret (results_none rfl _ _ _) rfl ?_
    exact ⟨rfl, AnTo.link HG1.out HK1.out HT.out⟩
  | true =>
    obtain ⟨he2, hsq⟩ := seq_yes he
    rw [hsq]
    rw [he, he2] at HEN
    clear he he2 hsq
    go_enter Tryz.func27, Tryz.ntmps27
    go_upto_region 2 with (go_at_call 46; refine HEN.out.mono ?_; rintro e w1 ⟨rfl, ht⟩; obtain ⟨⟨G1, h1, hg1⟩, hk1⟩ := ht; have H1 := Lib.hid h1; have HG1 := Lib.hid hg1; have HK1 := Lib.hid hk1; clear h1 hg1 hk1)
    have HA := Lib.hid (fun W (hb : Below w1.heap.size w1 W) => H1.out.below hb)
    have HB0 : Hid (Below w1.heap.size w1 w1.drew) := (Below.refl _ _).drew
    refine wp_region_noPanic ?_
    refine wp_region_k (S := fun W : World => Below w1.heap.size w1 W) 9 (by kernel_rfl) (HB0.out) (fun hHeld => ?_)
    refine kSK 0 hHeld ?_
    refine kSK 1 hHeld ?_
    refine kSK 2 hHeld ?_
    refine kTK (v := ?_) 3 [4] hHeld ?y4 ?_
    case y4 => (intro W hSw; obtain ⟨⟨_, _, _, _, _, _, _, _, y8, _⟩, _⟩ := (HA.out _ hSw).cells; go_simp; try with_reducible rfl)
    refine kSK 5 hHeld ?_
    try refine kNK ?_
    refine kSK 6 hHeld ?_
    refine kSK 7 hHeld ?_
    refine kTK (v := ?_) 8 [] hHeld ?y8 ?_
    case y8 => (intro W hSw; obtain ⟨⟨_, _, _, _, _, _, _, _, y8, _⟩, _⟩ := (HA.out _ hSw).cells; go_simp; try with_reducible rfl)
    try refine kNK ?_
    refine kOK 4 fun KQ hKQ => ?_
    go_simp
    go_at_call 33
    refine ((HA.out _ HB0.out).bytes.1).mono ?_
    rintro e w2 ⟨rfl, rfl⟩
    go_wp2_with fail
    refine hKQ.out _ _ (hHeld) ?_
    clear hHeld hKQ KQ
    intro hHeld
    try refine kNK ?_
    refine kPK 9 fun KQ hKQ => ?_
    go_simp
    go_at_call 48
    refine ((HA.out _ HB0.out).bytes.2).mono ?_
    rintro e w2 ⟨rfl, rfl⟩
    go_wp2_with fail
    refine hKQ.out _ _ ?_
    clear hKQ KQ
    try refine kNK ?_
    refine kBK 10 ?_
    refine kBK 11 ?_
    try refine kNK ?_
    refine wpAnyK_done (by kernel_rfl) ?_ _
    refine NoPanic.normal ?_
    have HDR := Lib.hid (an_drop (HA.out _ HB0.out))
    have HS2 : Hid (SmallA (dropN A)) := HSM.out
    go_upto_region 4 with (go_at_call 19; refine HDR.out.mono ?_; rintro e w2 ⟨rfl, ht⟩; obtain ⟨⟨G2, h2, hg2⟩, hk2⟩ := AnTo.after HB0.out ht; have H2 := Lib.hid h2; have HG22 := Lib.hid hg2; have HK22 := Lib.hid hk2; have HT2 := Lib.hid (AnTo.link HG1.out HK1.out (AnTo.after HB0.out ht)); clear h2 hg2 hk2 ht)
    by_cases hlo : 0 < A.lost
    · have hz : (0 : Int) < (A.lost : Int) := by omega
      have HLL := Lib.hid hlo
      clear hlo
      go_wp2_with fail
      try simp only [Exit.inBlock, Exit.then]
      refine bodyPost_ret (results_none rfl _ _ _) rfl ?_
      try rw [if_pos HLL.out]
      exact ⟨rfl, HT2.out⟩
    have hz : ¬ (0 : Int) < (A.lost : Int) := by omega
    have HLL := Lib.hid hlo
    clear hlo
    have HLEN := Lib.hid H1.out.lost
    have HFI := Lib.hid (finals_ok w2)
    go_wp2_with (go_at_call 49; refine HFI.out.mono ?_; rintro e w3 ⟨g, L, rfl, hg, htab⟩; have HTAB := Lib.hid htab; have HG := Lib.hid hg; clear htab hg)
    have H3 := Lib.hid (H2.out.below HTAB.out.1.1)
    have HG2 : Hid (∀ k, G2 k → k < w2.heap.size) := H2.out.lt
    go_loopw [34] (fun i wr => ∃ k : Nat, i = .int .i64 (k : Int) ∧ k ≤ 15 ∧ AnTo w3 wr P G2 (runA b A.body (dropN A) k)) (fun i _ => 15 - (intOf i).toNat)
    case atStart => exact ⟨0, rfl, by decide, AnTo.refl H3.out⟩
    case round =>
      obtain ⟨k, rfl, hk, hrk⟩ := hrel
      have HRK := Lib.hid hrk
      clear hrk
      by_cases hlt : k < 15
      · have hz1 : (k : Int) < 15 := by omega
        have hz2 : (0 : Int) ≤ (k : Int) := by omega
        have hwk : IntKind.i64.wrap ((k : Int) + 1) = ((k + 1 : Nat) : Int) := by rw [wrap_in (by omega) (by omega)]; rfl
        obtain ⟨r, hr⟩ : ∃ r, rulesA[k]? = some r := ⟨_, List.getElem?_eq_getElem (by show k < 15; exact hlt)⟩
        obtain ⟨F, hru, hcell⟩ := HTAB.out.at hr
        have HRS := Lib.hid (fun b s A => runA_succ (b := b) (s := s) (A := A) hr)
        obtain ⟨fn, caps, rfl, hen, hrun⟩ := hru
        unfold Enters at hen
        obtain ⟨c0, c1⟩ := hcell wr (HRK.out.2.block g (block_lt HTAB.out.2.1) (fun e => by have := HG2.out g e; have := HG.out; omega))
        have HRUN := Lib.hid hrun
        clear hcell hrun hr
        have hsz : (15 : Nat) - (intOf (.int .i64 ((k + 1 : Nat) : Int))).toNat < 15 - (intOf (.int .i64 (k : Int))).toNat := by simp [intOf]; omega
        have HSZ := Lib.hid hsz
        clear hsz
        go_upto_region 8 with fail
        have hx := heap_alloc_new wr (.cells #[.int .u8 (r.1.toNat : Int), .func (.func fn) #[] caps] 107)
        have HR4 := Lib.hid (HRK.out.later (below1 wr (.cells #[.int .u8 (r.1.toNat : Int), .func (.func fn) #[] caps] 107)))
        generalize wr.alloc (.cells #[.int .u8 (r.1.toNat : Int), .func (.func fn) #[] caps] 107) = W4 at hx HR4 ⊢
        generalize wr.heap.size = xb at hx ⊢
        obtain ⟨x0, x1, -⟩ := row2 hx
        clear hx c0 c1
        by_cases hrb : r.1 = b
        · have y0 : ((r.1.toNat : Int) == (b.toNat : Int)) = true := by rw [hrb]; exact beq_self_eq_true _
          obtain ⟨⟨G4, h4, hg4⟩, hk4⟩ := HR4.out
          have HS4 : SmallA (runA b A.body (dropN A) k) := by
            obtain ⟨d1, d2⟩ := runA_dims b A.body (dropN A) k
            exact ⟨by rw [d1]; exact HS2.out.1, by rw [d2]; exact HS2.out.2⟩
          have HCA := Lib.hid (HRUN.out W4 P G2 G4 _ A.body HG2.out hk4 h4 HS4 HLEN.out)
          have HG4 := Lib.hid hg4
          have HRB := Lib.hid hrb
          clear h4 hg4 hk4 HS4 hrb
          go_wp2_with (refine HCA.out.mono ?_; rintro e w5 ⟨rfl, ht⟩; have HT := Lib.hid ht; clear ht)
          refine ⟨⟨k + 1, rfl, hlt, ?_⟩, HSZ.out⟩
          rw [HRS.out, if_pos HRB.out]
          exact AnTo.link HG4.out HR4.out.2 HT.out
        · have y0 : ((r.1.toNat : Int) == (b.toNat : Int)) = false := beq_eq_false_iff_ne.2 (fun e => hrb (UInt8.toNat_inj.1 (Int.ofNat_inj.1 e)))
          have HRB := Lib.hid hrb
          clear hrb
          go_wp2_with fail
          refine ⟨⟨k + 1, rfl, hlt, ?_⟩, HSZ.out⟩
          rw [HRS.out, if_neg HRB.out]
          exact HR4.out
      · obtain rfl : k = 15 := by omega
        go_wp2_with fail
        go_end0
        try rw [if_neg HLL.out]
        rw [← run_end]
        exact ⟨rfl, AnTo.link HG1.out HK1.out (AnTo.link HG22.out HK22.out (AnTo.after HTAB.out.1.1 HRK.out))⟩
end
end Go.Proofs.YtmgeghoalmonoaaGreatDoor
