import Derived.Test.YteoeooijpjehpaaGreatDoorII
import Derived.Test.YteoeooijpjehpaaGreatDoorIJ
import Derived.Deep.CutBlock
import Derived.Test.YteoeooijpjehpaaGreatDoorIK
import Derived.Test.YteoeooijpjehpaaGreatDoorIL
import Derived.Test.YteoeooijpjehpaaGreatDoorIM

set_option maxRecDepth 100000
set_option maxHeartbeats 16000000
namespace Go.Proofs.YteoeooijpjehpaaGreatDoor
open Go.RowKit
set_option linter.unusedSimpArgs false
set_option linter.unusedVariables false
/- Walks: a Wyse 60's bytes that end a sequence of two, arm by arm: what is none. -/
section
attribute [local go_sem] alloc_drewN setCell_drewN World.cell?_alloc_some frozen_alloc_some size_f0 size_f1
theorem wone_none {w : World} {tp sp qp : Nat} {A : Wy} {F : Nat → Prop} {S : Vz.Sr} (h : Wys w tp sp qp A F S) (b : Nat) (hb : b ≠ 42 ∧ b ≠ 43 ∧ b ≠ 59 ∧ b ≠ 58 ∧ b ≠ 84 ∧ b ≠ 116 ∧ b ≠ 89 ∧ b ≠ 121 ∧ b ≠ 69 ∧ b ≠ 82 ∧ b ≠ 81 ∧ b ≠ 87 ∧ b ≠ 49 ∧ b ≠ 50 ∧ b ≠ 48 ∧ b ≠ 105 ∧ b ≠ 73 ∧ b ≠ 106 ∧ b ≠ 63 ∧ b ≠ 32 ∧ b ≠ 52 ∧ b ≠ 53) : Calls Tryz.prog 101 #[.pointer (some ⟨tp, 0, none⟩), .int .u8 b] w fun e w' => e = .returned (.bool false) ∧ Below w.heap.size w w' := by
 have e42 : ((b : Int) == 42) = false := by simp; omega
 have e43 : ((b : Int) == 43) = false := by simp; omega
 have e59 : ((b : Int) == 59) = false := by simp; omega
 have e58 : ((b : Int) == 58) = false := by simp; omega
 have e84 : ((b : Int) == 84) = false := by simp; omega
 have e116 : ((b : Int) == 116) = false := by simp; omega
 have e89 : ((b : Int) == 89) = false := by simp; omega
 have e121 : ((b : Int) == 121) = false := by simp; omega
 have e69 : ((b : Int) == 69) = false := by simp; omega
 have e82 : ((b : Int) == 82) = false := by simp; omega
 have e81 : ((b : Int) == 81) = false := by simp; omega
 have e87 : ((b : Int) == 87) = false := by simp; omega
 have e49 : ((b : Int) == 49) = false := by simp; omega
 have e50 : ((b : Int) == 50) = false := by simp; omega
 have e48 : ((b : Int) == 48) = false := by simp; omega
 have e105 : ((b : Int) == 105) = false := by simp; omega
 have e73 : ((b : Int) == 73) = false := by simp; omega
 have e106 : ((b : Int) == 106) = false := by simp; omega
 have e63 : ((b : Int) == 63) = false := by simp; omega
 have e32 : ((b : Int) == 32) = false := by simp; omega
 have e52 : ((b : Int) == 52) = false := by simp; omega
 have e53 : ((b : Int) == 53) = false := by simp; omega
 clear hb
 have HA := Lib.hid (fun W (hb : Below w.heap.size w W) => h.below hb)
 obtain ⟨t0, t1, t2, t3, _⟩ := h.cells
 have HCU := Lib.hid (scr_cursor sp F S w h.scr)
 clear h
 go_enter Tryz.func101, Tryz.ntmps101
 go_upto_block 0 with (go_at_call 22; refine HCU.out.mono ?_; rintro e w1 ⟨rfl, hb1⟩; have HB1 := Lib.hid (hb1.alloc hb1.size (.cells #[.int .i64 S.pl.at_.row, .int .i64 S.pl.at_.col] 49)); have HX := Lib.hid (heap_alloc_new w1 (.cells #[.int .i64 S.pl.at_.row, .int .i64 S.pl.at_.col] 49)); obtain ⟨y0, y1, y2, y3, y4, y5, y6, y7, _⟩ := (HA.out _ HB1.out).cells; clear hb1)
 refine wp_block ?_
 refine wp_seq_k fun K hK => ?_
 clear hK
 refine wp_block ?_
 refine wp_seq_k fun K hK => ?_
 clear hK
 refine wp_block ?_
 refine wp_seq_k fun K hK => ?_
 clear hK
 refine wp_block ?_
 refine wp_seq_k fun K hK => ?_
 clear hK
 refine wp_block ?_
 refine wp_seq_k fun K hK => ?_
 clear hK
 refine wp_block ?_
 refine wp_seq_k fun K hK => ?_
 clear hK
 refine wp_block ?_
 refine wp_seq_k fun K hK => ?_
 clear hK
 refine wp_block ?_
 refine wp_seq_k fun K hK => ?_
 clear hK
 refine wp_block ?_
 refine wp_seq_k fun K hK => ?_
 clear hK
 refine wp_block ?_
 refine wp_seq_k fun K hK => ?_
 clear hK
 refine wp_block ?_
 refine wp_seq_k fun K hK => ?_
 clear hK
 refine wp_block ?_
 refine wp_seq_k fun K hK => ?_
 clear hK
 refine wp_block ?_
 refine wp_seq_k fun K hK => ?_
 clear hK
 refine wp_block ?_
 refine wp_seq_k fun K hK => ?_
 clear hK
 refine wp_block ?_
 refine wp_seq_k fun K hK => ?_
 clear hK
 refine wp_block ?_
 refine wp_seq_k fun K hK => ?_
 clear hK
 refine wp_block ?_
 go_wp2_with fail
 go_ret
 exact ⟨rfl, HB1.out⟩
end
section
theorem WyAt.boxed {w w' : World} {tp sp qp lb fr : Nat} {F : Nat → Prop} {A A' : Wy} (h : WyAt w tp sp qp lb fr F A) (hS : A'.S = A.S) (hq : A'.q = A.q) (ho : A'.over = A.over) (hm : A'.most = A.most)
 (hbox : w'.heap[tp]? = some (.cells (wyB sp qp A') 75 (0, 0))) (hlen : A'.seq.length ≤ 64) (hK : Keeps (fun k => k = tp) w w') : WyAt w' tp sp qp lb fr F A' := by
 have hbn : ¬ (0 = tp) := fun e => h.nbl _ (.inl rfl) e.symm
 have hscr : Scr w' sp F A.S := by
  obtain ⟨gp, tp', mb, FG, hA, hG⟩ := h.scr
  refine ⟨gp, tp', mb, FG, hA.of_blocks (fun k hf => hK.block _ (hA.lt hf) ?_) (hK.block _ hA.blk.lt hbn), hG⟩
  rintro rfl
  exact h.ntp ((hG _).2 hf)
 obtain ⟨hq', hl⟩ := h.que.lt
 exact ⟨hbox, by rw [hS]; exact hscr, by rw [hq, ho, hm]; exact h.que.of_blocks (hK.block _ hq' h.tq.symm) (hK.block _ hl h.tl.symm), hlen, h.ntp, h.nqp, h.nlb, h.tq, h.tl, h.nbl, h.lib.keeps hK (fun k hl e => h.nli k (.inl e) hl), h.nli⟩
theorem wys_one {w : World} {tp sp qp lb fr : Nat} {F FT : Nat → Prop} {A : Wy} (h : WyAt w tp sp qp lb fr F A) (hF : ∀ k, FT k ↔ footY tp qp lb F k) (b : Nat) : Calls Tryz.prog 101 #[.pointer (some ⟨tp, 0, none⟩), .int .u8 b] w fun e w' => e = .returned (.bool (oneW A b).2) ∧ WTermTo w w' tp sp qp FT (oneW A b).1 := by
 unfold oneW
 by_cases h42 : b = 42
 · subst h42
   rw [if_pos rfl]
   exact (wone_42 h.wys (fun e => h.nbl _ (.inl rfl) e.symm)).mono fun e w' h' => ⟨h'.1, by
    obtain ⟨_, w1, hb, hk, ht⟩ := h'
    exact WTermTo.link (fun k hk => .inl hk) (hk.mono fun k e => (hF k).2 (.inl e)) (WTerm.scrTo (h.boxed (A' := { A with gd := false, pr := false }) rfl rfl rfl rfl hb h.len hk) hF ht)⟩
 rw [if_neg h42]
 by_cases h43 : b = 43 ∨ b = 59 ∨ b = 58
 · rw [if_pos h43]
   rcases h43 with rfl | rfl | rfl
   · exact (wone_43 h.wys).mono fun e w' h' => ⟨h'.1, WTerm.scrTo h hF h'.2⟩
   · exact (wone_59 h.wys).mono fun e w' h' => ⟨h'.1, WTerm.scrTo h hF h'.2⟩
   · exact (wone_58 h.wys).mono fun e w' h' => ⟨h'.1, WTerm.scrTo h hF h'.2⟩
 rw [if_neg h43]
 by_cases h84 : b = 84 ∨ b = 116
 · rw [if_pos h84]
   rcases h84 with rfl | rfl
   · exact (wone_84 h.wys).mono fun e w' h' => ⟨h'.1, WTerm.scrTo h hF h'.2⟩
   · exact (wone_116 h.wys).mono fun e w' h' => ⟨h'.1, WTerm.scrTo h hF h'.2⟩
 rw [if_neg h84]
 by_cases h89 : b = 89 ∨ b = 121
 · rw [if_pos h89]
   rcases h89 with rfl | rfl
   · exact (wone_89 h.wys).mono fun e w' h' => ⟨h'.1, WTerm.scrTo h hF h'.2⟩
   · exact (wone_121 h.wys).mono fun e w' h' => ⟨h'.1, WTerm.scrTo h hF h'.2⟩
 rw [if_neg h89]
 by_cases h69 : b = 69 ∨ b = 82
 · rw [if_pos h69]
   rcases h69 with rfl | rfl
   · exact (wone_69 h.wys).mono fun e w' h' => ⟨h'.1, WTerm.scrTo h hF h'.2⟩
   · exact (wone_82 h.wys).mono fun e w' h' => ⟨h'.1, WTerm.scrTo h hF h'.2⟩
 rw [if_neg h69]
 by_cases h81 : b = 81
 · subst h81
   rw [if_pos rfl]
   exact (wone_81 h.wys).mono fun e w' h' => ⟨h'.1, WTerm.scrTo h hF h'.2⟩
 rw [if_neg h81]
 by_cases h87 : b = 87
 · subst h87
   rw [if_pos rfl]
   exact (wone_87 h.wys).mono fun e w' h' => ⟨h'.1, WTerm.scrTo h hF h'.2⟩
 rw [if_neg h87]
 by_cases h49 : b = 49 ∨ b = 50
 · rw [if_pos h49]
   rcases h49 with rfl | rfl
   · exact (wone_49 h.wys).mono fun e w' h' => ⟨h'.1, WTerm.scrTo h hF h'.2⟩
   · exact (wone_50 h.wys).mono fun e w' h' => ⟨h'.1, WTerm.scrTo h hF h'.2⟩
 rw [if_neg h49]
 by_cases h48 : b = 48
 · subst h48
   rw [if_pos rfl]
   exact (wone_48 h.wys).mono fun e w' h' => ⟨h'.1, WTerm.scrTo h hF h'.2⟩
 rw [if_neg h48]
 by_cases h105 : b = 105
 · subst h105
   rw [if_pos rfl]
   exact (wone_105 h.wys).mono fun e w' h' => ⟨h'.1, WTerm.scrTo h hF h'.2⟩
 rw [if_neg h105]
 by_cases h73 : b = 73
 · subst h73
   rw [if_pos rfl]
   exact (wone_73 h.wys).mono fun e w' h' => ⟨h'.1, WTerm.scrTo h hF h'.2⟩
 rw [if_neg h73]
 by_cases h106 : b = 106
 · subst h106
   rw [if_pos rfl]
   by_cases hp : A.pr = true
   · refine (wone_106_on h.wys hp).mono fun e w' h' => ⟨h'.1, ?_⟩
     show WTermTo w w' tp sp qp FT { A with S := if A.pr = true then stepS A.S (-1) 0 else feedS A.S (-1) }
     rw [if_pos hp]
     exact WTerm.scrTo h hF h'.2
   · refine (wone_106_off h.wys (by cases hq : A.pr <;> simp_all)).mono fun e w' h' => ⟨h'.1, ?_⟩
     show WTermTo w w' tp sp qp FT { A with S := if A.pr = true then stepS A.S (-1) 0 else feedS A.S (-1) }
     rw [if_neg hp]
     exact WTerm.scrTo h hF h'.2
 rw [if_neg h106]
 by_cases h63 : b = 63
 · subst h63
   rw [if_pos rfl]
   rw [pushW_eq]
   exact (wone_63 h.wys h.que).mono fun e w' h' => ⟨h'.1, WTerm.queTo h hF h'.2⟩
 rw [if_neg h63]
 by_cases h32 : b = 32
 · subst h32
   rw [if_pos rfl]
   rw [pushW_eq]
   exact (wone_32 h.wys h.que).mono fun e w' h' => ⟨h'.1, WTerm.queTo h hF h'.2⟩
 rw [if_neg h32]
 by_cases h52 : b = 52
 · subst h52
   rw [if_pos rfl]
   unfold sendW
   rw [pushW_eq]
   exact (wone_52 h.wys h.que).mono fun e w' h' => ⟨h'.1, WTerm.queTo h hF h'.2⟩
 rw [if_neg h52]
 by_cases h53 : b = 53
 · subst h53
   rw [if_pos rfl]
   unfold sendW
   rw [pushW_eq]
   exact (wone_53 h.wys h.que).mono fun e w' h' => ⟨h'.1, WTerm.queTo h hF h'.2⟩
 rw [if_neg h53]
 exact (wone_none h.wys b (by omega)).mono fun e w' h' => ⟨h'.1, (WTermTo.refl ⟨lb, fr, F, h, hF⟩).later h'.2⟩
end
end Go.Proofs.YteoeooijpjehpaaGreatDoor
