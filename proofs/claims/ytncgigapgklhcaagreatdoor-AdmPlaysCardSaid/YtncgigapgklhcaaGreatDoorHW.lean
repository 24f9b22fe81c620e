import Derived.Test.YtncgigapgklhcaaGreatDoorHT
import Derived.Deep.CutBlock
import Derived.Test.YtncgigapgklhcaaGreatDoorHU
import Derived.Test.YtncgigapgklhcaaGreatDoorHV

set_option maxRecDepth 100000
set_option maxHeartbeats 16000000
namespace Go.Proofs.YtncgigapgklhcaaGreatDoor
open Go.RowKit
set_option linter.unusedSimpArgs false
set_option linter.unusedVariables false
/- Walks: an ADM-3A's bytes that end a sequence of two, arm by arm: what is none. -/
section
attribute [local go_sem] alloc_drewN setCell_drewN World.cell?_alloc_some frozen_alloc_some size_f0 size_f1
theorem one_none {w : World} {tp sp qp : Nat} {gd pr : Bool} {attr : Int} {V : Value} {F : Nat → Prop} {S : Vz.Sr} (h : Adm w tp sp qp gd pr attr V F S) (b : Nat) (hb : b ≠ 42 ∧ b ≠ 43 ∧ b ≠ 59 ∧ b ≠ 58 ∧ b ≠ 84 ∧ b ≠ 116 ∧ b ≠ 89 ∧ b ≠ 121 ∧ b ≠ 69 ∧ b ≠ 82 ∧ b ≠ 81 ∧ b ≠ 87 ∧ b ≠ 40 ∧ b ≠ 41 ∧ b ≠ 38 ∧ b ≠ 39 ∧ b ≠ 49 ∧ b ≠ 50 ∧ b ≠ 51 ∧ b ≠ 105 ∧ b ≠ 73 ∧ b ≠ 106 ∧ b ≠ 63) : Calls Tryz.prog 85 #[.pointer (some ⟨tp, 0, none⟩), .int .u8 b] w fun e w' => e = .returned (.bool false) ∧ Below w.heap.size w w' := by
 have e42 : ((b : Int) == 42) = false := by simp; omega
 have e43 : ((b : Int) == 43) = false := by simp; omega
 have e59 : ((b : Int) == 59) = false := by simp; omega
 have e58 : ((b : Int) == 58) = false := by simp; omega
 have e84 : ((b : Int) == 84) = false := by simp; omega
 have e116 : ((b : Int) == 116) = false := by simp; omega
 have e89 : ((b : Int) == 89) = false := by simp; omega
 have e121 : ((b : Int) == 121) = false := by simp; omega
 have e69 : ((b : Int) == 69) = false := by simp; omega
 have e82 : ((b : Int) == 82) = false := by simp; omega
 have e81 : ((b : Int) == 81) = false := by simp; omega
 have e87 : ((b : Int) == 87) = false := by simp; omega
 have e40 : ((b : Int) == 40) = false := by simp; omega
 have e41 : ((b : Int) == 41) = false := by simp; omega
 have e38 : ((b : Int) == 38) = false := by simp; omega
 have e39 : ((b : Int) == 39) = false := by simp; omega
 have e49 : ((b : Int) == 49) = false := by simp; omega
 have e50 : ((b : Int) == 50) = false := by simp; omega
 have e51 : ((b : Int) == 51) = false := by simp; omega
 have e105 : ((b : Int) == 105) = false := by simp; omega
 have e73 : ((b : Int) == 73) = false := by simp; omega
 have e106 : ((b : Int) == 106) = false := by simp; omega
 have e63 : ((b : Int) == 63) = false := by simp; omega
 clear hb
 have HA := Lib.hid (fun W (hb : Below w.heap.size w W) => h.below hb)
 obtain ⟨t0, t1, t2, t3, _⟩ := h.cells
 have HCU := Lib.hid (scr_cursor sp F S w h.scr)
 clear h
 go_enter Tryz.func85, Tryz.ntmps85
 go_upto_block 0 with (go_at_call 14; refine HCU.out.mono ?_; rintro e w1 ⟨rfl, hb1⟩; have HB1 := Lib.hid (hb1.alloc hb1.size (.cells #[.int .i64 S.pl.at_.row, .int .i64 S.pl.at_.col] 36)); have HX := Lib.hid (heap_alloc_new w1 (.cells #[.int .i64 S.pl.at_.row, .int .i64 S.pl.at_.col] 36)); obtain ⟨y0, y1, y2, y3, y4, y5, g2, g3, g4, g5⟩ := (HA.out _ HB1.out).cells; clear hb1)
 refine wp_block ?_
 refine wp_seq_k fun K hK => ?_
 clear hK
 refine wp_block ?_
 refine wp_seq_k fun K hK => ?_
 clear hK
 refine wp_block ?_
 refine wp_seq_k fun K hK => ?_
 clear hK
 refine wp_block ?_
 refine wp_seq_k fun K hK => ?_
 clear hK
 refine wp_block ?_
 refine wp_seq_k fun K hK => ?_
 clear hK
 refine wp_block ?_
 refine wp_seq_k fun K hK => ?_
 clear hK
 refine wp_block ?_
 refine wp_seq_k fun K hK => ?_
 clear hK
 refine wp_block ?_
 refine wp_seq_k fun K hK => ?_
 clear hK
 refine wp_block ?_
 refine wp_seq_k fun K hK => ?_
 clear hK
 refine wp_block ?_
 refine wp_seq_k fun K hK => ?_
 clear hK
 refine wp_block ?_
 refine wp_seq_k fun K hK => ?_
 clear hK
 refine wp_block ?_
 refine wp_seq_k fun K hK => ?_
 clear hK
 refine wp_block ?_
 refine wp_seq_k fun K hK => ?_
 clear hK
 refine wp_block ?_
 refine wp_seq_k fun K hK => ?_
 clear hK
 refine wp_block ?_
 refine wp_seq_k fun K hK => ?_
 clear hK
 refine wp_block ?_
 refine wp_seq_k fun K hK => ?_
 clear hK
 refine wp_block ?_
 go_wp2_with fail
 go_ret
 exact ⟨rfl, HB1.out⟩
end
section
theorem TermAt.modes {w w' : World} {tp sp qp lb fr : Nat} {F : Nat → Prop} {V : Value} {A : Ad} {gd pr : Bool} {attr : Int} (h : TermAt w tp sp qp lb fr F V A) (hbox : w'.heap[tp]? = some (.cells (termB sp qp gd pr attr V) 87 (0, 0))) (hK : Keeps (fun k => k = tp) w w') : TermAt w' tp sp qp lb fr F V { A with gd := gd, pr := pr, attr := attr } := by
 obtain ⟨gp, tp', mb, FG, hA, hG⟩ := h.scr
 obtain ⟨hq, hl⟩ := h.que.lt
 exact ⟨hbox, own_kept h.own fun k hk => hK.block k (own_foot_lt h.own hk) (h.nv k hk).2.1, ⟨gp, tp', mb, FG, hA.of_blocks (fun k hf => hK.block k (hA.lt hf) (fun e => h.ntp (e ▸ (hG k).2 hf))) (hK.block _ hA.blk.lt (fun e => h.nbl _ (.inl rfl) e.symm)), hG⟩, h.que.of_blocks (hK.block _ hq h.tq.symm) (hK.block _ hl h.tl.symm), h.ok, h.ntp, h.nqp, h.nlb, h.nv, h.tq, h.tl, h.nbl⟩
theorem Term.modes {w w' : World} {tp sp qp lb fr : Nat} {F FT : Nat → Prop} {V : Value} {A : Ad} {gd pr : Bool} {attr : Int} (h : TermAt w tp sp qp lb fr F V A) (hF : ∀ k, FT k ↔ footT tp qp lb F V k) (hbox : w'.heap[tp]? = some (.cells (termB sp qp gd pr attr V) 87 (0, 0))) (hK : Keeps (fun k => k = tp) w w') : TermTo w w' tp sp qp FT { A with gd := gd, pr := pr, attr := attr } :=
 ⟨⟨FT, ⟨lb, fr, F, V, h.modes hbox hK, hF⟩, fun k hk => .inl hk⟩, hK.mono fun k e => (hF k).2 (.inl e)⟩
theorem TermAt.adm {w : World} {tp sp qp lb fr : Nat} {F : Nat → Prop} {V : Value} {A : Ad} (h : TermAt w tp sp qp lb fr F V A) : Adm w tp sp qp A.gd A.pr A.attr V F A.S := ⟨h.box, h.scr, h.ntp⟩
theorem adm_ground {w : World} {tp sp qp lb fr : Nat} {F FT : Nat → Prop} {V : Value} {A : Ad} (h : TermAt w tp sp qp lb fr F V A) (hF : ∀ k, FT k ↔ footT tp qp lb F V k) (b : Nat) : Calls Tryz.prog 53 #[.pointer (some ⟨tp, 0, none⟩), .int .u8 b] w fun e w' => e = .returned (.bool (groundA A b).2) ∧ TermTo w w' tp sp qp FT (groundA A b).1 := by
 unfold groundA
 by_cases h5 : b = 5
 · subst h5
   rw [if_pos rfl]
   rw [pushA_eq]
   exact (ground_push h.box h.que).mono fun e w' h' => ⟨h'.1, Term.queTo h hF h'.2⟩
 rw [if_neg h5]
 by_cases h8 : b = 8
 · subst h8
   rw [if_pos rfl]
   exact (ground_8 h.adm).mono fun e w' h' => ⟨h'.1, Term.scrTo h hF h'.2⟩
 rw [if_neg h8]
 by_cases h9 : b = 9
 · subst h9
   rw [if_pos rfl]
   exact (ground_9 h.adm).mono fun e w' h' => ⟨h'.1, Term.scrTo h hF h'.2⟩
 rw [if_neg h9]
 by_cases h11 : b = 11
 · subst h11
   rw [if_pos rfl]
   exact (ground_11 h.adm).mono fun e w' h' => ⟨h'.1, Term.scrTo h hF h'.2⟩
 rw [if_neg h11]
 by_cases h12 : b = 12
 · subst h12
   rw [if_pos rfl]
   exact (ground_12 h.adm).mono fun e w' h' => ⟨h'.1, Term.scrTo h hF h'.2⟩
 rw [if_neg h12]
 by_cases h13 : b = 13
 · subst h13
   rw [if_pos rfl]
   exact (ground_13 h.adm).mono fun e w' h' => ⟨h'.1, Term.scrTo h hF h'.2⟩
 rw [if_neg h13]
 by_cases h26 : b = 26
 · subst h26
   rw [if_pos rfl]
   exact (ground_26 h.adm).mono fun e w' h' => ⟨h'.1, Term.scrTo h hF h'.2⟩
 rw [if_neg h26]
 by_cases h30 : b = 30
 · subst h30
   rw [if_pos rfl]
   exact (ground_30 h.adm).mono fun e w' h' => ⟨h'.1, Term.scrTo h hF h'.2⟩
 rw [if_neg h30]
 by_cases h31 : b = 31
 · subst h31
   rw [if_pos rfl]
   exact (ground_31 h.adm).mono fun e w' h' => ⟨h'.1, Term.scrTo h hF h'.2⟩
 rw [if_neg h31]
 by_cases h10 : b = 10
 · subst h10
   rw [if_pos rfl]
   exact (ground_10 h.adm).mono fun e w' h' => ⟨h'.1, Term.scrTo h hF h'.2⟩
 rw [if_neg h10]
 by_cases hs : 32 ≤ b ∧ b ≤ 126
 · rw [if_pos hs]
   exact (ground_put h.adm b hs).mono fun e w' h' => ⟨h'.1, Term.scrTo h hF h'.2⟩
 rw [if_neg hs]
 exact (ground_none tp b w (by omega) ⟨h5, h8, h9, h11, h12, h13, h26, h30, h31, h10⟩).mono fun e w' h' => ⟨h'.1, h'.2 ▸ TermTo.refl ⟨lb, fr, F, V, h, hF⟩⟩
theorem adm_one {w : World} {tp sp qp lb fr : Nat} {F FT : Nat → Prop} {V : Value} {A : Ad} (h : TermAt w tp sp qp lb fr F V A) (hF : ∀ k, FT k ↔ footT tp qp lb F V k) (b : Nat) : Calls Tryz.prog 85 #[.pointer (some ⟨tp, 0, none⟩), .int .u8 b] w fun e w' => e = .returned (.bool (oneA A b).2) ∧ TermTo w w' tp sp qp FT (oneA A b).1 := by
 unfold oneA
 by_cases h42 : b = 42
 · subst h42
   rw [if_pos rfl]
   exact (one_42 h.adm (fun e => h.nbl _ (.inl rfl) e.symm)).mono fun e w' h' => ⟨h'.1, by
    obtain ⟨_, w1, hb, hk, ht⟩ := h'
    exact TermTo.link (fun k hk => .inl hk) (hk.mono fun k e => (hF k).2 (.inl e)) (Term.scrTo (h.modes hb hk) hF ht)⟩
 rw [if_neg h42]
 by_cases h43 : b = 43 ∨ b = 59 ∨ b = 58
 · rw [if_pos h43]
   rcases h43 with rfl | rfl | rfl
   · exact (one_43 h.adm).mono fun e w' h' => ⟨h'.1, Term.scrTo h hF h'.2⟩
   · exact (one_59 h.adm).mono fun e w' h' => ⟨h'.1, Term.scrTo h hF h'.2⟩
   · exact (one_58 h.adm).mono fun e w' h' => ⟨h'.1, Term.scrTo h hF h'.2⟩
 rw [if_neg h43]
 by_cases h84 : b = 84 ∨ b = 116
 · rw [if_pos h84]
   rcases h84 with rfl | rfl
   · exact (one_84 h.adm).mono fun e w' h' => ⟨h'.1, Term.scrTo h hF h'.2⟩
   · exact (one_116 h.adm).mono fun e w' h' => ⟨h'.1, Term.scrTo h hF h'.2⟩
 rw [if_neg h84]
 by_cases h89 : b = 89 ∨ b = 121
 · rw [if_pos h89]
   rcases h89 with rfl | rfl
   · exact (one_89 h.adm).mono fun e w' h' => ⟨h'.1, Term.scrTo h hF h'.2⟩
   · exact (one_121 h.adm).mono fun e w' h' => ⟨h'.1, Term.scrTo h hF h'.2⟩
 rw [if_neg h89]
 by_cases h69 : b = 69
 · subst h69
   rw [if_pos rfl]
   exact (one_69 h.adm).mono fun e w' h' => ⟨h'.1, Term.scrTo h hF h'.2⟩
 rw [if_neg h69]
 by_cases h82 : b = 82
 · subst h82
   rw [if_pos rfl]
   exact (one_82 h.adm).mono fun e w' h' => ⟨h'.1, Term.scrTo h hF h'.2⟩
 rw [if_neg h82]
 by_cases h81 : b = 81
 · subst h81
   rw [if_pos rfl]
   exact (one_81 h.adm).mono fun e w' h' => ⟨h'.1, Term.scrTo h hF h'.2⟩
 rw [if_neg h81]
 by_cases h87 : b = 87
 · subst h87
   rw [if_pos rfl]
   exact (one_87 h.adm).mono fun e w' h' => ⟨h'.1, Term.scrTo h hF h'.2⟩
 rw [if_neg h87]
 by_cases h40 : b = 40 ∨ b = 41
 · rw [if_pos h40]
   rcases h40 with rfl | rfl
   · exact (one_40 h.adm).mono fun e w' h' => ⟨h'.1, Term.modes h hF h'.2.1 h'.2.2⟩
   · exact (one_41 h.adm).mono fun e w' h' => ⟨h'.1, Term.modes h hF h'.2.1 h'.2.2⟩
 rw [if_neg h40]
 by_cases h38 : b = 38 ∨ b = 39
 · rw [if_pos h38]
   rcases h38 with rfl | rfl
   · exact (one_38 h.adm).mono fun e w' h' => ⟨h'.1, Term.modes h hF h'.2.1 h'.2.2⟩
   · exact (one_39 h.adm).mono fun e w' h' => ⟨h'.1, Term.modes h hF h'.2.1 h'.2.2⟩
 rw [if_neg h38]
 by_cases h49 : b = 49 ∨ b = 50
 · rw [if_pos h49]
   rcases h49 with rfl | rfl
   · exact (one_49 h.adm).mono fun e w' h' => ⟨h'.1, Term.scrTo h hF h'.2⟩
   · exact (one_50 h.adm).mono fun e w' h' => ⟨h'.1, Term.scrTo h hF h'.2⟩
 rw [if_neg h49]
 by_cases h51 : b = 51
 · subst h51
   rw [if_pos rfl]
   exact (one_51 h.adm).mono fun e w' h' => ⟨h'.1, Term.scrTo h hF h'.2⟩
 rw [if_neg h51]
 by_cases h105 : b = 105
 · subst h105
   rw [if_pos rfl]
   exact (one_105 h.adm).mono fun e w' h' => ⟨h'.1, Term.scrTo h hF h'.2⟩
 rw [if_neg h105]
 by_cases h73 : b = 73
 · subst h73
   rw [if_pos rfl]
   exact (one_73 h.adm).mono fun e w' h' => ⟨h'.1, Term.scrTo h hF h'.2⟩
 rw [if_neg h73]
 by_cases h106 : b = 106
 · subst h106
   rw [if_pos rfl]
   by_cases hp : A.pr = true
   · have hA := h.adm
     rw [hp] at hA
     refine (one_106_on hA).mono fun e w' h' => ⟨h'.1, ?_⟩
     show TermTo w w' tp sp qp FT { A with S := if A.pr = true then stepS A.S (-1) 0 else feedS A.S (-1) }
     rw [if_pos hp]
     exact Term.scrTo h hF h'.2
   · have hA := h.adm
     rw [show A.pr = false by simpa using hp] at hA
     refine (one_106_off hA).mono fun e w' h' => ⟨h'.1, ?_⟩
     show TermTo w w' tp sp qp FT { A with S := if A.pr = true then stepS A.S (-1) 0 else feedS A.S (-1) }
     rw [if_neg hp]
     exact Term.scrTo h hF h'.2
 rw [if_neg h106]
 by_cases h63 : b = 63
 · subst h63
   rw [if_pos rfl]
   rw [pushA_eq]
   exact (one_63 h.adm h.que).mono fun e w' h' => ⟨h'.1, Term.queTo h hF h'.2⟩
 rw [if_neg h63]
 exact (one_none h.adm b (by omega)).mono fun e w' h' => ⟨h'.1, (TermTo.refl ⟨lb, fr, F, V, h, hF⟩).later h'.2⟩
end
section
attribute [local go_sem] alloc_drewN setCell_drewN World.cell?_alloc_some frozen_alloc_some size_f0 size_f1
theorem end_one {w : World} {tp sp qp lb fr : Nat} {F FT : Nat → Prop} {V : Value} {A : Ad} (h : TermAt w tp sp qp lb fr F V A) (hF : ∀ k, FT k ↔ footT tp qp lb F V k) (g cap c : Nat) (hc : w.cell? ⟨g, 1, none⟩ = some (.int .u8 c)) (h1 : c ≠ 61) (h2 : c ≠ 71) : Calls Tryz.prog 54 #[.pointer (some ⟨tp, 0, none⟩), .slice (some ⟨g, 0, none⟩) 2 cap] w fun e w' => e = .returned (.bool (oneA A c).2) ∧ TermTo w w' tp sp qp FT (oneA A c).1 := by
 have HO := Lib.hid (adm_one h hF c)
 have e1 : ((c : Int) == 61) = false := by simp; omega
 have e2 : ((c : Int) == 71) = false := by simp; omega
 clear h hF h1 h2
 generalize oneA A c = r at *
 go_enter Tryz.func54, Tryz.ntmps54
 go_wp2_with (go_at_call 85; refine HO.out.mono ?_; rintro e w1 ⟨rfl, ht⟩; have HT := Lib.hid ht; clear ht)
 go_ret
 exact ⟨rfl, HT.out⟩
theorem end_dyes {w : World} {tp sp qp lb fr : Nat} {F FT : Nat → Prop} {V : Value} {A : Ad} (h : TermAt w tp sp qp lb fr F V A) (hF : ∀ k, FT k ↔ footT tp qp lb F V k) (g cap b : Nat) (hb : b < 256) (hc1 : w.cell? ⟨g, 1, none⟩ = some (.int .u8 71)) (hc2 : w.cell? ⟨g, 2, none⟩ = some (.int .u8 b)) : Calls Tryz.prog 54 #[.pointer (some ⟨tp, 0, none⟩), .slice (some ⟨g, 0, none⟩) 3 cap] w fun e w' => e = .returned (.bool false) ∧ TermTo w w' tp sp qp FT (dyesA A b) := by
 have HO : Hid (Calls Tryz.prog 84 #[.pointer (some ⟨tp, 0, none⟩), .int .u8 b] w fun e w' => e = .returned (.tuple #[]) ∧ TermTo w w' tp sp qp FT (dyesA A b)) := by
  refine (adm_dyes h.box b hb).mono fun e w' h' => ⟨h'.1, ?_⟩
  have := Term.modes h hF h'.2.1 h'.2.2
  unfold dyesA
  split
  · rename_i hc
    rw [if_pos hc] at this
    exact this
  · rename_i hc
    rw [if_neg hc] at this
    exact this
 clear h hF hb
 go_enter Tryz.func54, Tryz.ntmps54
 go_wp2_with (go_at_call 84; refine HO.out.mono ?_; rintro e w1 ⟨rfl, ht⟩; have HT := Lib.hid ht; clear ht)
 go_ret
 exact ⟨rfl, HT.out⟩
def addrS (S : Vz.Sr) (r c : Int) : Vz.Sr := if 0 ≤ r ∧ r < (S.D.R : Int) ∧ 0 ≤ c ∧ c < (S.D.C : Int) then moveS S ⟨r, c⟩ else S
theorem addrA_eq (A : Ad) (r c : Int) : addrA A r c = { A with S := addrS A.S r c } := by
 unfold addrA addrS
 split <;> rfl
theorem end_addr_in {w : World} {tp sp qp : Nat} {gd pr : Bool} {attr : Int} {V : Value} {F : Nat → Prop} {S : Vz.Sr} (h : Adm w tp sp qp gd pr attr V F S) (g cap r c : Nat) (hr : r < 256) (hc : c < 256) (hc1 : w.cell? ⟨g, 1, none⟩ = some (.int .u8 61)) (hc2 : w.cell? ⟨g, 2, none⟩ = some (.int .u8 r)) (hc3 : w.cell? ⟨g, 3, none⟩ = some (.int .u8 c)) (hin : (⟨(r : Int) - 32, (c : Int) - 32⟩ : Vz.Ps).inS S.D.R S.D.C) : Calls Tryz.prog 54 #[.pointer (some ⟨tp, 0, none⟩), .slice (some ⟨g, 0, none⟩) 4 cap] w fun e w' => e = .returned (.bool false) ∧ ScrTo w w' sp F (moveS S ⟨(r : Int) - 32, (c : Int) - 32⟩) := by
 have HA := Lib.hid (fun W (hb : Below w.heap.size w W) => h.below hb)
 have HAT := Lib.hid (fun W (hb : Below w.heap.size w W) => scr_at sp F S ⟨(r : Int) - 32, (c : Int) - 32⟩ W (h.below hb).scr hin)
 have hw1 : IntKind.i64.wrap ((r : Int) - 32) = (r : Int) - 32 := wrap_in (by omega) (by omega)
 have hw2 : IntKind.i64.wrap ((c : Int) - 32) = (c : Int) - 32 := wrap_in (by omega) (by omega)
 have hwr : IntKind.i64.wrap (r : Int) = (r : Int) := wrap_in (by omega) (by omega)
 have hwc : IntKind.i64.wrap (c : Int) = (c : Int) := wrap_in (by omega) (by omega)
 have hr0 : (r : Int) < 256 := by omega
 have hc0 : (c : Int) < 256 := by omega
 have hlg : g < w.heap.size := World.block_lt_of_cell? _ _ hc1
 have HC : Hid (∀ W, Below w.heap.size w W → W.cell? ⟨g, 2, none⟩ = some (.int .u8 r) ∧ W.cell? ⟨g, 3, none⟩ = some (.int .u8 c)) := fun W hb => ⟨(hb.cell hlg).trans hc2, (hb.cell hlg).trans hc3⟩
 generalize atD S.D ⟨(r : Int) - 32, (c : Int) - 32⟩ = x at *
 clear h hin hc2 hc3 hr hc hlg
 go_enter Tryz.func54, Tryz.ntmps54
 go_upto_region 4 with fail
 clear hc1
 have HB1 : Hid (Below w.heap.size w w.drew) := (Below.refl _ _).drew
 refine wp_region_noPanic ?_
 refine wp_region_k (S := fun W : World => Below w.heap.size w W) 999 (by kernel_rfl) (HB1.out) (fun hHeld => ?_)
 refine kSK 0 hHeld ?_
 refine kSK 1 hHeld ?_
 refine kHK (v := ?_) 2 hHeld ?y3 ?_
 case y3 => (intro W hSw; obtain ⟨y2, y3⟩ := HC.out _ hSw; go_simp; try with_reducible rfl)
 refine kSK 3 hHeld ?_
 refine kSK 4 hHeld ?_
 try refine kNK ?_
 refine kSK 5 hHeld ?_
 refine kSK 6 hHeld ?_
 refine kHK (v := ?_) 7 hHeld ?y8 ?_
 case y8 => (intro W hSw; obtain ⟨y2, y3⟩ := HC.out _ hSw; go_simp; try with_reducible rfl)
 refine kSK 8 hHeld ?_
 refine kSK 9 hHeld ?_
 try refine kNK ?_
 refine kSK 10 hHeld ?_
 try refine kNK ?_
 refine kOK 11 fun KQ hKQ => ?_
 go_simp
 refine hKQ.out _ _ (hHeld.alloc hHeld.size _) ?_
 clear hHeld hKQ KQ
 intro hHeld
 try refine kNK ?_
 refine kOK 12 fun KQ hKQ => ?_
 go_simp
 refine hKQ.out _ _ ((Grows.below ((Grows.refl w).alloc _)).drew) ?_
 clear hHeld hKQ KQ
 intro hHeld
 try refine kNK ?_
 refine wpAnyK_done (by kernel_rfl) ?_ _
 refine NoPanic.normal ?_
 go_upto_region 5 with fail
 clear hHeld
 have HP : Hid (∀ W, Below (w.heap.size + 1) (w.alloc (.cells #[.int .i64 ((r : Int) - 32), .int .i64 ((c : Int) - 32)] 36)) W → W.heap[w.heap.size]? = some (.cells #[.int .i64 ((r : Int) - 32), .int .i64 ((c : Int) - 32)] 36 (0, 0)) ∧ Below w.heap.size w W) := fun W hb => box1 (hb.mono (by simp))
 have HB2 : Hid (Below (w.heap.size + 1) (w.alloc (.cells #[.int .i64 ((r : Int) - 32), .int .i64 ((c : Int) - 32)] 36)) (w.alloc (.cells #[.int .i64 ((r : Int) - 32), .int .i64 ((c : Int) - 32)] 36)).drew.drew) := ((Below.refl _ _).drew).drew
 refine wp_region_noPanic ?_
 refine wp_region_k (S := fun W : World => Below (w.heap.size + 1) (w.alloc (.cells #[.int .i64 ((r : Int) - 32), .int .i64 ((c : Int) - 32)] 36)) W) 5 (by kernel_rfl) (HB2.out) (fun hHeld => ?_)
 refine kSK 0 hHeld ?_
 refine kSK 1 hHeld ?_
 refine kSK 2 hHeld ?_
 refine kTK (v := ?_) 3 [] hHeld ?y4 ?_
 case y4 => (intro W hSw; obtain ⟨z0, z1⟩ := HP.out _ hSw; obtain ⟨y0, _⟩ := (HA.out _ z1).cells; obtain ⟨p0, p1, _⟩ := row2 z0; go_simp; try with_reducible rfl)
 refine kTK (v := ?_) 4 [] hHeld ?y5 ?_
 case y5 => (intro W hSw; obtain ⟨z0, z1⟩ := HP.out _ hSw; obtain ⟨y0, _⟩ := (HA.out _ z1).cells; obtain ⟨p0, p1, _⟩ := row2 z0; go_simp; try with_reducible rfl)
 try refine kNK ?_
 refine wpAnyK_ready (rs := [5, 9]) (by kernel_rfl) (by simp) ?_
 refine AllReadyK.free rfl (by kernel_rfl) (fun KQ hKQ => ?_) (AllReadyK.cons rfl (fun KQ hKQ => ?_) AllReadyK.nil)
 focus
  go_simp
  go_at_call 25
  refine (HAT.out _ (HP.out _ hHeld).2).mono ?_
  rintro e w2 ⟨rfl, hb2⟩
  have HB3 := Lib.hid (Below.later hHeld hb2 (Nat.le_trans (by simp) hHeld.size))
  have HB23 := Lib.hid hb2
  first | (have hl := row4 ((hb2.block _ (block_lt HC9.out)).trans HC9.out); revert hl; rintro ⟨l0, l1, l2, l3, n0, n1, n2, n3⟩) | skip
  clear hb2
  go_wp2_with fail
  refine hKQ.out _ _ ?_
  clear hKQ KQ
  try refine kNK ?_
  refine kBK 6 ?_
  refine kBK 7 ?_
  refine kBK 8 ?_
  try refine kNK ?_
  refine kPK 9 fun KQ hKQ => ?_
  go_simp
  have HC9 : Hid (((w.alloc (.cells #[.int .i64 ((r : Int) - 32), .int .i64 ((c : Int) - 32)] 36)).drew.drew.alloc (.cells #[.int .i32 0, .int .i64 0, .bool false, .int .i64 0] 56)).heap[w.heap.size + 1]? = some (.cells #[.int .i32 0, .int .i64 0, .bool false, .int .i64 0] 56 (0, 0))) := by
   have := heap_alloc_new (w.alloc (.cells #[.int .i64 ((r : Int) - 32), .int .i64 ((c : Int) - 32)] 36)).drew.drew (.cells #[.int .i32 0, .int .i64 0, .bool false, .int .i64 0] 56)
   rwa [show (w.alloc (.cells #[.int .i64 ((r : Int) - 32), .int .i64 ((c : Int) - 32)] 36)).drew.drew.heap.size = w.heap.size + 1 from World.size_alloc _ _] at this
  refine hKQ.out _ _ ?_
  clear hKQ KQ
  try refine kNK ?_
  refine kPK 10 fun KQ hKQ => ?_
  go_simp
  refine hKQ.out _ _ ?_
  clear hKQ KQ
  try refine kNK ?_
  refine kBK 11 ?_
  try refine kNK ?_
  refine wpAnyK_done (by kernel_rfl) ?_ _
  refine NoPanic.normal ?_
 rotate_left 1
 focus
  go_simp
  have HC9 : Hid (((w.alloc (.cells #[.int .i64 ((r : Int) - 32), .int .i64 ((c : Int) - 32)] 36)).drew.drew.alloc (.cells #[.int .i32 0, .int .i64 0, .bool false, .int .i64 0] 56)).heap[w.heap.size + 1]? = some (.cells #[.int .i32 0, .int .i64 0, .bool false, .int .i64 0] 56 (0, 0))) := by
   have := heap_alloc_new (w.alloc (.cells #[.int .i64 ((r : Int) - 32), .int .i64 ((c : Int) - 32)] 36)).drew.drew (.cells #[.int .i32 0, .int .i64 0, .bool false, .int .i64 0] 56)
   rwa [show (w.alloc (.cells #[.int .i64 ((r : Int) - 32), .int .i64 ((c : Int) - 32)] 36)).drew.drew.heap.size = w.heap.size + 1 from World.size_alloc _ _] at this
  refine hKQ.out _ _ (hHeld.alloc (Nat.le_trans (by simp) hHeld.size) _) ?_
  clear hHeld hKQ KQ
  intro hHeld
  try refine kNK ?_
  refine kPK 5 fun KQ hKQ => ?_
  go_simp
  go_at_call 25
  refine (HAT.out _ (HP.out _ hHeld).2).mono ?_
  rintro e w2 ⟨rfl, hb2⟩
  have HB3 := Lib.hid (Below.later hHeld hb2 (Nat.le_trans (by simp) hHeld.size))
  have HB23 := Lib.hid hb2
  first | (have hl := row4 ((hb2.block _ (block_lt HC9.out)).trans HC9.out); revert hl; rintro ⟨l0, l1, l2, l3, n0, n1, n2, n3⟩) | skip
  clear hb2
  go_wp2_with fail
  refine hKQ.out _ _ ?_
  clear hKQ KQ
  try refine kNK ?_
  refine kBK 6 ?_
  refine kBK 7 ?_
  refine kBK 8 ?_
  try refine kNK ?_
  refine kPK 10 fun KQ hKQ => ?_
  go_simp
  refine hKQ.out _ _ ?_
  clear hKQ KQ
  try refine kNK ?_
  refine kBK 11 ?_
  try refine kNK ?_
  refine wpAnyK_done (by kernel_rfl) ?_ _
  refine NoPanic.normal ?_
 rotate_left 1
 · have HB4 : Hid (Below (w.heap.size + 1) (w.alloc (.cells #[.int .i64 ((r : Int) - 32), .int .i64 ((c : Int) - 32)] 36)) (w2.alloc (.cells #[.int .i32 x.g, .int .i64 x.a, .bool x.gd, .int .i64 x.m] 56))) := HB3.out.alloc (Nat.le_trans (by simp) HB3.out.size) _
   obtain ⟨z0, z1⟩ := HP.out _ HB4.out
   have HZ0 := Lib.hid z0
   have HZ1 := Lib.hid z1
   clear z0 z1 HB23 HB4
   generalize w2.alloc (.cells #[.int .i32 x.g, .int .i64 x.a, .bool x.gd, .int .i64 x.m] 56) = W4 at *
   go_upto_region 7 with fail
   have HB5 := Lib.hid HZ1.out.drew
   have HX5 := Lib.hid (show W4.drew.heap[w.heap.size]? = _ from HZ0.out)
   refine wp_region_noPanic ?_
   refine wp_region_k (S := fun W : World => Below w.heap.size w W ∧ W.heap[w.heap.size]? = some (.cells #[.int .i64 ((r : Int) - 32), .int .i64 ((c : Int) - 32)] 36 (0, 0))) 5 (by kernel_rfl) (⟨HB5.out, HX5.out⟩) (fun hHeld => ?_)
   refine kSK 0 hHeld ?_
   refine kSK 1 hHeld ?_
   refine kSK 2 hHeld ?_
   refine kTK (v := ?_) 3 [] hHeld ?y4 ?_
   case y4 => (intro W hSw; obtain ⟨y0, _⟩ := (HA.out _ hSw.1).cells; obtain ⟨p0, p1, _⟩ := row2 hSw.2; go_simp; try with_reducible rfl)
   refine kTK (v := ?_) 4 [] hHeld ?y5 ?_
   case y5 => (intro W hSw; obtain ⟨y0, _⟩ := (HA.out _ hSw.1).cells; obtain ⟨p0, p1, _⟩ := row2 hSw.2; go_simp; try with_reducible rfl)
   try refine kNK ?_
   refine kPK 5 fun KQ hKQ => ?_
   go_simp
   go_at_call 59
   refine (scr_move sp F S ⟨(r : Int) - 32, (c : Int) - 32⟩ _ (HA.out _ HB5.out).scr).mono ?_
   rintro e w6 ⟨rfl, ht⟩
   have HT := Lib.hid ht
   clear ht
   go_wp2_with fail
   refine hKQ.out _ _ ?_
   clear hKQ KQ
   try refine kNK ?_
   refine wpAnyK_done (by kernel_rfl) ?_ _
   refine NoPanic.normal ?_
   go_wp2_with fail
   all_goals (
    go_ret
    exact ⟨rfl, ScrTo.after HB5.out HT.out⟩)
 · have HB4 : Hid (Below (w.heap.size + 1) (w.alloc (.cells #[.int .i64 ((r : Int) - 32), .int .i64 ((c : Int) - 32)] 36)) ((((w2.setCell ⟨w.heap.size + 1, 0, none⟩ (.int .i32 x.g)).setCell ⟨w.heap.size + 1, 1, none⟩ (.int .i64 x.a)).setCell ⟨w.heap.size + 1, 2, none⟩ (.bool x.gd)).setCell ⟨w.heap.size + 1, 3, none⟩ (.int .i64 x.m))) := Below.set4 HB3.out (Nat.le_refl _) _ _ _ _
   clear l0 l1 l2 l3 n0 n1 n2 n3 HC9
   obtain ⟨z0, z1⟩ := HP.out _ HB4.out
   have HZ0 := Lib.hid z0
   have HZ1 := Lib.hid z1
   clear z0 z1 HB23 HB4
   generalize ((((w2.setCell ⟨w.heap.size + 1, 0, none⟩ (.int .i32 x.g)).setCell ⟨w.heap.size + 1, 1, none⟩ (.int .i64 x.a)).setCell ⟨w.heap.size + 1, 2, none⟩ (.bool x.gd)).setCell ⟨w.heap.size + 1, 3, none⟩ (.int .i64 x.m)) = W4 at *
   go_upto_region 7 with fail
   have HB5 := Lib.hid HZ1.out.drew
   have HX5 := Lib.hid (show W4.drew.heap[w.heap.size]? = _ from HZ0.out)
   refine wp_region_noPanic ?_
   refine wp_region_k (S := fun W : World => Below w.heap.size w W ∧ W.heap[w.heap.size]? = some (.cells #[.int .i64 ((r : Int) - 32), .int .i64 ((c : Int) - 32)] 36 (0, 0))) 5 (by kernel_rfl) (⟨HB5.out, HX5.out⟩) (fun hHeld => ?_)
   refine kSK 0 hHeld ?_
   refine kSK 1 hHeld ?_
   refine kSK 2 hHeld ?_
   refine kTK (v := ?_) 3 [] hHeld ?y4 ?_
   case y4 => (intro W hSw; obtain ⟨y0, _⟩ := (HA.out _ hSw.1).cells; obtain ⟨p0, p1, _⟩ := row2 hSw.2; go_simp; try with_reducible rfl)
   refine kTK (v := ?_) 4 [] hHeld ?y5 ?_
   case y5 => (intro W hSw; obtain ⟨y0, _⟩ := (HA.out _ hSw.1).cells; obtain ⟨p0, p1, _⟩ := row2 hSw.2; go_simp; try with_reducible rfl)
   try refine kNK ?_
   refine kPK 5 fun KQ hKQ => ?_
   go_simp
   go_at_call 59
   refine (scr_move sp F S ⟨(r : Int) - 32, (c : Int) - 32⟩ _ (HA.out _ HB5.out).scr).mono ?_
   rintro e w6 ⟨rfl, ht⟩
   have HT := Lib.hid ht
   clear ht
   go_wp2_with fail
   refine hKQ.out _ _ ?_
   clear hKQ KQ
   try refine kNK ?_
   refine wpAnyK_done (by kernel_rfl) ?_ _
   refine NoPanic.normal ?_
   go_wp2_with fail
   all_goals (
    go_ret
    exact ⟨rfl, ScrTo.after HB5.out HT.out⟩)
theorem end_addr_out {w : World} {tp sp qp : Nat} {gd pr : Bool} {attr : Int} {V : Value} {F : Nat → Prop} {S : Vz.Sr} (h : Adm w tp sp qp gd pr attr V F S) (g cap r c : Nat) (hr : r < 256) (hc : c < 256) (hc1 : w.cell? ⟨g, 1, none⟩ = some (.int .u8 61)) (hc2 : w.cell? ⟨g, 2, none⟩ = some (.int .u8 r)) (hc3 : w.cell? ⟨g, 3, none⟩ = some (.int .u8 c)) (hin : ¬ (⟨(r : Int) - 32, (c : Int) - 32⟩ : Vz.Ps).inS S.D.R S.D.C) : Calls Tryz.prog 54 #[.pointer (some ⟨tp, 0, none⟩), .slice (some ⟨g, 0, none⟩) 4 cap] w fun e w' => e = .returned (.bool false) ∧ ScrTo w w' sp F (S) := by
 have HA := Lib.hid (fun W (hb : Below w.heap.size w W) => h.below hb)
 have HAT := Lib.hid (fun W (hb : Below w.heap.size w W) => scr_at_no sp F S ⟨(r : Int) - 32, (c : Int) - 32⟩ W (h.below hb).scr hin)
 have hw1 : IntKind.i64.wrap ((r : Int) - 32) = (r : Int) - 32 := wrap_in (by omega) (by omega)
 have hw2 : IntKind.i64.wrap ((c : Int) - 32) = (c : Int) - 32 := wrap_in (by omega) (by omega)
 have hwr : IntKind.i64.wrap (r : Int) = (r : Int) := wrap_in (by omega) (by omega)
 have hwc : IntKind.i64.wrap (c : Int) = (c : Int) := wrap_in (by omega) (by omega)
 have hr0 : (r : Int) < 256 := by omega
 have hc0 : (c : Int) < 256 := by omega
 have hlg : g < w.heap.size := World.block_lt_of_cell? _ _ hc1
 have HC : Hid (∀ W, Below w.heap.size w W → W.cell? ⟨g, 2, none⟩ = some (.int .u8 r) ∧ W.cell? ⟨g, 3, none⟩ = some (.int .u8 c)) := fun W hb => ⟨(hb.cell hlg).trans hc2, (hb.cell hlg).trans hc3⟩
 clear h hin hc2 hc3 hr hc hlg
 go_enter Tryz.func54, Tryz.ntmps54
 go_upto_region 4 with fail
 clear hc1
 have HB1 : Hid (Below w.heap.size w w.drew) := (Below.refl _ _).drew
 refine wp_region_noPanic ?_
 refine wp_region_k (S := fun W : World => Below w.heap.size w W) 999 (by kernel_rfl) (HB1.out) (fun hHeld => ?_)
 refine kSK 0 hHeld ?_
 refine kSK 1 hHeld ?_
 refine kHK (v := ?_) 2 hHeld ?y3 ?_
 case y3 => (intro W hSw; obtain ⟨y2, y3⟩ := HC.out _ hSw; go_simp; try with_reducible rfl)
 refine kSK 3 hHeld ?_
 refine kSK 4 hHeld ?_
 try refine kNK ?_
 refine kSK 5 hHeld ?_
 refine kSK 6 hHeld ?_
 refine kHK (v := ?_) 7 hHeld ?y8 ?_
 case y8 => (intro W hSw; obtain ⟨y2, y3⟩ := HC.out _ hSw; go_simp; try with_reducible rfl)
 refine kSK 8 hHeld ?_
 refine kSK 9 hHeld ?_
 try refine kNK ?_
 refine kSK 10 hHeld ?_
 try refine kNK ?_
 refine kOK 11 fun KQ hKQ => ?_
 go_simp
 refine hKQ.out _ _ (hHeld.alloc hHeld.size _) ?_
 clear hHeld hKQ KQ
 intro hHeld
 try refine kNK ?_
 refine kOK 12 fun KQ hKQ => ?_
 go_simp
 refine hKQ.out _ _ ((Grows.below ((Grows.refl w).alloc _)).drew) ?_
 clear hHeld hKQ KQ
 intro hHeld
 try refine kNK ?_
 refine wpAnyK_done (by kernel_rfl) ?_ _
 refine NoPanic.normal ?_
 go_upto_region 5 with fail
 clear hHeld
 have HP : Hid (∀ W, Below (w.heap.size + 1) (w.alloc (.cells #[.int .i64 ((r : Int) - 32), .int .i64 ((c : Int) - 32)] 36)) W → W.heap[w.heap.size]? = some (.cells #[.int .i64 ((r : Int) - 32), .int .i64 ((c : Int) - 32)] 36 (0, 0)) ∧ Below w.heap.size w W) := fun W hb => box1 (hb.mono (by simp))
 have HB2 : Hid (Below (w.heap.size + 1) (w.alloc (.cells #[.int .i64 ((r : Int) - 32), .int .i64 ((c : Int) - 32)] 36)) (w.alloc (.cells #[.int .i64 ((r : Int) - 32), .int .i64 ((c : Int) - 32)] 36)).drew.drew) := ((Below.refl _ _).drew).drew
 refine wp_region_noPanic ?_
 refine wp_region_k (S := fun W : World => Below (w.heap.size + 1) (w.alloc (.cells #[.int .i64 ((r : Int) - 32), .int .i64 ((c : Int) - 32)] 36)) W) 5 (by kernel_rfl) (HB2.out) (fun hHeld => ?_)
 refine kSK 0 hHeld ?_
 refine kSK 1 hHeld ?_
 refine kSK 2 hHeld ?_
 refine kTK (v := ?_) 3 [] hHeld ?y4 ?_
 case y4 => (intro W hSw; obtain ⟨z0, z1⟩ := HP.out _ hSw; obtain ⟨y0, _⟩ := (HA.out _ z1).cells; obtain ⟨p0, p1, _⟩ := row2 z0; go_simp; try with_reducible rfl)
 refine kTK (v := ?_) 4 [] hHeld ?y5 ?_
 case y5 => (intro W hSw; obtain ⟨z0, z1⟩ := HP.out _ hSw; obtain ⟨y0, _⟩ := (HA.out _ z1).cells; obtain ⟨p0, p1, _⟩ := row2 z0; go_simp; try with_reducible rfl)
 try refine kNK ?_
 refine wpAnyK_ready (rs := [5, 9]) (by kernel_rfl) (by simp) ?_
 refine AllReadyK.free rfl (by kernel_rfl) (fun KQ hKQ => ?_) (AllReadyK.cons rfl (fun KQ hKQ => ?_) AllReadyK.nil)
 focus
  go_simp
  go_at_call 25
  refine (HAT.out _ (HP.out _ hHeld).2).mono ?_
  rintro e w2 ⟨rfl, hb2⟩
  have HB3 := Lib.hid (Below.later hHeld hb2 (Nat.le_trans (by simp) hHeld.size))
  have HB23 := Lib.hid hb2
  first | (have hl := row4 ((hb2.block _ (block_lt HC9.out)).trans HC9.out); revert hl; rintro ⟨l0, l1, l2, l3, n0, n1, n2, n3⟩) | skip
  clear hb2
  go_wp2_with fail
  refine hKQ.out _ _ ?_
  clear hKQ KQ
  try refine kNK ?_
  refine kBK 6 ?_
  refine kBK 7 ?_
  refine kBK 8 ?_
  try refine kNK ?_
  refine kPK 9 fun KQ hKQ => ?_
  go_simp
  have HC9 : Hid (((w.alloc (.cells #[.int .i64 ((r : Int) - 32), .int .i64 ((c : Int) - 32)] 36)).drew.drew.alloc (.cells #[.int .i32 0, .int .i64 0, .bool false, .int .i64 0] 56)).heap[w.heap.size + 1]? = some (.cells #[.int .i32 0, .int .i64 0, .bool false, .int .i64 0] 56 (0, 0))) := by
   have := heap_alloc_new (w.alloc (.cells #[.int .i64 ((r : Int) - 32), .int .i64 ((c : Int) - 32)] 36)).drew.drew (.cells #[.int .i32 0, .int .i64 0, .bool false, .int .i64 0] 56)
   rwa [show (w.alloc (.cells #[.int .i64 ((r : Int) - 32), .int .i64 ((c : Int) - 32)] 36)).drew.drew.heap.size = w.heap.size + 1 from World.size_alloc _ _] at this
  refine hKQ.out _ _ ?_
  clear hKQ KQ
  try refine kNK ?_
  refine kPK 10 fun KQ hKQ => ?_
  go_simp
  refine hKQ.out _ _ ?_
  clear hKQ KQ
  try refine kNK ?_
  refine kBK 11 ?_
  try refine kNK ?_
  refine wpAnyK_done (by kernel_rfl) ?_ _
  refine NoPanic.normal ?_
 rotate_left 1
 focus
  go_simp
  have HC9 : Hid (((w.alloc (.cells #[.int .i64 ((r : Int) - 32), .int .i64 ((c : Int) - 32)] 36)).drew.drew.alloc (.cells #[.int .i32 0, .int .i64 0, .bool false, .int .i64 0] 56)).heap[w.heap.size + 1]? = some (.cells #[.int .i32 0, .int .i64 0, .bool false, .int .i64 0] 56 (0, 0))) := by
   have := heap_alloc_new (w.alloc (.cells #[.int .i64 ((r : Int) - 32), .int .i64 ((c : Int) - 32)] 36)).drew.drew (.cells #[.int .i32 0, .int .i64 0, .bool false, .int .i64 0] 56)
   rwa [show (w.alloc (.cells #[.int .i64 ((r : Int) - 32), .int .i64 ((c : Int) - 32)] 36)).drew.drew.heap.size = w.heap.size + 1 from World.size_alloc _ _] at this
  refine hKQ.out _ _ (hHeld.alloc (Nat.le_trans (by simp) hHeld.size) _) ?_
  clear hHeld hKQ KQ
  intro hHeld
  try refine kNK ?_
  refine kPK 5 fun KQ hKQ => ?_
  go_simp
  go_at_call 25
  refine (HAT.out _ (HP.out _ hHeld).2).mono ?_
  rintro e w2 ⟨rfl, hb2⟩
  have HB3 := Lib.hid (Below.later hHeld hb2 (Nat.le_trans (by simp) hHeld.size))
  have HB23 := Lib.hid hb2
  first | (have hl := row4 ((hb2.block _ (block_lt HC9.out)).trans HC9.out); revert hl; rintro ⟨l0, l1, l2, l3, n0, n1, n2, n3⟩) | skip
  clear hb2
  go_wp2_with fail
  refine hKQ.out _ _ ?_
  clear hKQ KQ
  try refine kNK ?_
  refine kBK 6 ?_
  refine kBK 7 ?_
  refine kBK 8 ?_
  try refine kNK ?_
  refine kPK 10 fun KQ hKQ => ?_
  go_simp
  refine hKQ.out _ _ ?_
  clear hKQ KQ
  try refine kNK ?_
  refine kBK 11 ?_
  try refine kNK ?_
  refine wpAnyK_done (by kernel_rfl) ?_ _
  refine NoPanic.normal ?_
 rotate_left 1
 · have HB4 : Hid (Below (w.heap.size + 1) (w.alloc (.cells #[.int .i64 ((r : Int) - 32), .int .i64 ((c : Int) - 32)] 36)) (w2.alloc (.cells #[.int .i32 0, .int .i64 0, .bool false, .int .i64 0] 56))) := HB3.out.alloc (Nat.le_trans (by simp) HB3.out.size) _
   have HZ1 := Lib.hid (HP.out _ HB4.out).2
   clear HB23 HB4
   generalize w2.alloc (.cells #[.int .i32 0, .int .i64 0, .bool false, .int .i64 0] 56) = W4 at *
   go_wp2_with fail
   all_goals (
    go_ret
    exact ⟨rfl, ScrTo.after HZ1.out (ScrTo.refl (HA.out _ HZ1.out).scr)⟩)
 · have HB4 : Hid (Below (w.heap.size + 1) (w.alloc (.cells #[.int .i64 ((r : Int) - 32), .int .i64 ((c : Int) - 32)] 36)) ((((w2.setCell ⟨w.heap.size + 1, 0, none⟩ (.int .i32 0)).setCell ⟨w.heap.size + 1, 1, none⟩ (.int .i64 0)).setCell ⟨w.heap.size + 1, 2, none⟩ (.bool false)).setCell ⟨w.heap.size + 1, 3, none⟩ (.int .i64 0))) := Below.set4 HB3.out (Nat.le_refl _) _ _ _ _
   clear l0 l1 l2 l3 n0 n1 n2 n3 HC9
   have HZ1 := Lib.hid (HP.out _ HB4.out).2
   clear HB23 HB4
   generalize ((((w2.setCell ⟨w.heap.size + 1, 0, none⟩ (.int .i32 0)).setCell ⟨w.heap.size + 1, 1, none⟩ (.int .i64 0)).setCell ⟨w.heap.size + 1, 2, none⟩ (.bool false)).setCell ⟨w.heap.size + 1, 3, none⟩ (.int .i64 0)) = W4 at *
   go_wp2_with fail
   all_goals (
    go_ret
    exact ⟨rfl, ScrTo.after HZ1.out (ScrTo.refl (HA.out _ HZ1.out).scr)⟩)
end
end Go.Proofs.YtncgigapgklhcaaGreatDoor
