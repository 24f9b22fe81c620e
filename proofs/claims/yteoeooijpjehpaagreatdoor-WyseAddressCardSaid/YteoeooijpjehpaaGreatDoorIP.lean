import Derived.Test.YteoeooijpjehpaaGreatDoorIO

set_option maxRecDepth 100000
set_option maxHeartbeats 16000000
namespace Go.Proofs.YteoeooijpjehpaaGreatDoor
open Go.RowKit
set_option linter.unusedSimpArgs false
set_option linter.unusedVariables false
/- Walks: a Wyse 60's address in numbers. -/
section
attribute [local go_sem] alloc_drewN setCell_drewN World.cell?_alloc_some frozen_alloc_some size_f0 size_f1
theorem cut_lens (l : List UInt8) {n : Nat} (h : l.length ≤ n) : (cutA l).length ≤ n ∧ (cutB l).length ≤ n := by
 unfold cutA cutB Go.Lib.cut
 split
 · refine ⟨?_, ?_⟩
   · simp only [List.length_take]; omega
   · simp only [List.length_drop]; omega
 · exact ⟨by omega, by simp⟩
theorem trimB_len (l : List UInt8) (c : UInt8) {n : Nat} (h : l.length ≤ n) : (trimB l c).length ≤ n := by
 unfold trimB Go.Lib.trimSuffix
 split
 · simp only [List.length_take]; omega
 · exact h
def addr97 (S : Vz.Sr) (c : Bool) (a b : Int) : Vz.Sr := if c = true then (if 0 ≤ a ∧ a < (S.D.R : Int) ∧ 0 ≤ b ∧ b < (S.D.C : Int) then moveS S ⟨a, b⟩ else S) else S
theorem wend_97 {w : World} {tp sp qp : Nat} {A : Wy} {F : Nat → Prop} {S : Vz.Sr} (h : Wys w tp sp qp A F S) (hlib : LibW w) (l : List UInt8) (hl : l.length ≤ 1000000) : Calls Tryz.prog 56 #[.pointer (some ⟨tp, 0, none⟩), .int .u8 97, .string ⟨l.toArray⟩] w fun e w' => e = .returned (.bool false) ∧ ScrTo w w' sp F (addr97 S (cutIs (trimB l 67) && numOk (cutA (trimB l 67)) && numOk (cutB (trimB l 67)) && partB (cutA (trimB l 67)) true && partB (cutB (trimB l 67)) true && endsB l 67) (lessB (cutA (trimB l 67))) (lessB (cutB (trimB l 67)))) := by
 have HA := Lib.hid (fun W (hb : Below w.heap.size w W) => h.below hb)
 have HTR := Lib.hid (st_trimSuffix l [67] hl w)
 have hT := trimB_len l 67 hl
 have HCU := Lib.hid (st_cut (trimB l 67) [82] hT w hlib)
 obtain ⟨hA, hB⟩ := cut_lens (trimB l 67) hT
 have HA1 := Lib.hid (fun W (hb : Below w.heap.size w W) => st_atoi (cutA (trimB l 67)) hA W (hlib.below hb))
 have HA2 := Lib.hid (fun W (hb : Below w.heap.size w W) => st_atoi (cutB (trimB l 67)) hB W (hlib.below hb))
 have HP1 := Lib.hid (fun W => wpart_ok (cutA (trimB l 67)) true hA W)
 have HP2 := Lib.hid (fun W => wpart_ok (cutB (trimB l 67)) true hB W)
 have HSF := Lib.hid (fun W => st_suffix l [67] hl W)
 change Hid (Calls Tryz.prog 97 #[.string ⟨l.toArray⟩, .string ⟨#[67]⟩] w fun e w' => e = .returned (.string ⟨(trimB l 67).toArray⟩) ∧ w' = w) at HTR
 change Hid (Calls Tryz.prog 94 #[.string ⟨(trimB l 67).toArray⟩, .string ⟨#[82]⟩] w fun e w' => e = .returned (.tuple #[.string ⟨(cutA (trimB l 67)).toArray⟩, .string ⟨(cutB (trimB l 67)).toArray⟩, .bool (cutIs (trimB l 67))]) ∧ Below w.heap.size w w') at HCU
 change Hid (∀ W, Calls Tryz.prog 93 #[.string ⟨l.toArray⟩, .string ⟨#[67]⟩] W fun e w' => e = .returned (.bool (endsB l 67)) ∧ w' = W) at HSF
 obtain ⟨S', hS'⟩ : ∃ S', S' = addr97 S (cutIs (trimB l 67) && numOk (cutA (trimB l 67)) && numOk (cutB (trimB l 67)) && partB (cutA (trimB l 67)) true && partB (cutB (trimB l 67)) true && endsB l 67) (lessB (cutA (trimB l 67))) (lessB (cutB (trimB l 67))) := ⟨_, rfl⟩
 rw [← hS']
 have HS' := Lib.hid hS'
 clear h hlib hl hT hA hB hS'
 generalize cutA (trimB l 67) = la at *
 generalize cutB (trimB l 67) = lb at *
 generalize cutIs (trimB l 67) = is at *
 generalize endsB l 67 = en at *
 generalize trimB l 67 = T at *
 generalize hp1 : partB la true = p1 at *
 generalize hp2 : partB lb true = p2 at *
 clear hp1 hp2
 go_enter Tryz.func56, Tryz.ntmps56
 go_upto_region 10 with (first
  | (go_at_call 97; refine HTR.out.mono ?_; rintro e w1 ⟨rfl, rfl⟩)
  | (go_at_call 94; refine HCU.out.mono ?_; rintro e w2 ⟨rfl, hb2⟩; have HB2 := Lib.hid hb2; clear hb2)
  | (have hbq := HB3.out; clear hbq; go_at_call 98; refine (HA2.out _ HB3.out).mono ?_; rintro e w4 ⟨⟨v2, ev2, rfl, hv2⟩, hb4⟩; have HV2 := Lib.hid hv2; have HB4 := Lib.hid (Below.later HB3.out hb4 HB3.out.size); clear hb4 hv2)
  | (go_at_call 98; refine (HA1.out _ HB2.out).mono ?_; rintro e w3 ⟨⟨v1, ev1, rfl, hv1⟩, hb3⟩; have HV1 := Lib.hid hv1; have HB3 := Lib.hid (Below.later HB2.out hb3 HB2.out.size); clear hb3 hv1))
 cases is
 · have hS : S' = S := by
    rw [HS'.out]
    exact if_neg (by simp [])
   have HSS := Lib.hid hS
   clear hS
   go_wp2_with (first
    | (have hbq := HB5.out; clear hbq; go_at_call 95; refine (HP2.out _).mono ?_; rintro e w6 ⟨rfl, hb6⟩; have HB6 := Lib.hid (Below.later HB5.out hb6 HB5.out.size); clear hb6)
    | (go_at_call 95; refine (HP1.out _).mono ?_; rintro e w5 ⟨rfl, hb5⟩; have HB5 := Lib.hid (Below.later HB4.out hb5 HB4.out.size); clear hb5)
    | (go_at_call 93; refine (HSF.out _).mono ?_; rintro e w7 ⟨rfl, rfl⟩)
    | (go_at_call 96; refine (wys_goes (HA.out _ HB6.out) _ _).mono ?_; rintro e w8 ⟨rfl, ht⟩; have HT := Lib.hid (ScrTo.after HB6.out ht); clear ht))
   go_ret
   exact ⟨rfl, by rw [HSS.out]; exact ScrTo.after HB4.out (ScrTo.refl (HA.out _ HB4.out).scr)⟩
 · rcases HV1.out with ⟨rfl, hn1⟩ | ⟨⟨t, p, rfl⟩, hn1⟩
   · rcases HV2.out with ⟨rfl, hn2⟩ | ⟨⟨t, p, rfl⟩, hn2⟩
     · cases p1
       · have hS : S' = S := by
          rw [HS'.out]
          exact if_neg (by simp [])
         have HSS := Lib.hid hS
         clear hS
         go_wp2_with (first
          | (have hbq := HB5.out; clear hbq; go_at_call 95; refine (HP2.out _).mono ?_; rintro e w6 ⟨rfl, hb6⟩; have HB6 := Lib.hid (Below.later HB5.out hb6 HB5.out.size); clear hb6)
          | (go_at_call 95; refine (HP1.out _).mono ?_; rintro e w5 ⟨rfl, hb5⟩; have HB5 := Lib.hid (Below.later HB4.out hb5 HB4.out.size); clear hb5)
          | (go_at_call 93; refine (HSF.out _).mono ?_; rintro e w7 ⟨rfl, rfl⟩)
          | (go_at_call 96; refine (wys_goes (HA.out _ HB6.out) _ _).mono ?_; rintro e w8 ⟨rfl, ht⟩; have HT := Lib.hid (ScrTo.after HB6.out ht); clear ht))
         go_ret
         exact ⟨rfl, by rw [HSS.out]; exact ScrTo.after HB5.out (ScrTo.refl (HA.out _ HB5.out).scr)⟩
       · cases p2
         · have hS : S' = S := by
            rw [HS'.out]
            exact if_neg (by simp [])
           have HSS := Lib.hid hS
           clear hS
           go_wp2_with (first
            | (have hbq := HB5.out; clear hbq; go_at_call 95; refine (HP2.out _).mono ?_; rintro e w6 ⟨rfl, hb6⟩; have HB6 := Lib.hid (Below.later HB5.out hb6 HB5.out.size); clear hb6)
            | (go_at_call 95; refine (HP1.out _).mono ?_; rintro e w5 ⟨rfl, hb5⟩; have HB5 := Lib.hid (Below.later HB4.out hb5 HB4.out.size); clear hb5)
            | (go_at_call 93; refine (HSF.out _).mono ?_; rintro e w7 ⟨rfl, rfl⟩)
            | (go_at_call 96; refine (wys_goes (HA.out _ HB6.out) _ _).mono ?_; rintro e w8 ⟨rfl, ht⟩; have HT := Lib.hid (ScrTo.after HB6.out ht); clear ht))
           go_ret
           exact ⟨rfl, by rw [HSS.out]; exact ScrTo.after HB6.out (ScrTo.refl (HA.out _ HB6.out).scr)⟩
         · cases en
           · have hS : S' = S := by
              rw [HS'.out]
              exact if_neg (by simp [])
             have HSS := Lib.hid hS
             clear hS
             go_wp2_with (first
              | (have hbq := HB5.out; clear hbq; go_at_call 95; refine (HP2.out _).mono ?_; rintro e w6 ⟨rfl, hb6⟩; have HB6 := Lib.hid (Below.later HB5.out hb6 HB5.out.size); clear hb6)
              | (go_at_call 95; refine (HP1.out _).mono ?_; rintro e w5 ⟨rfl, hb5⟩; have HB5 := Lib.hid (Below.later HB4.out hb5 HB4.out.size); clear hb5)
              | (go_at_call 93; refine (HSF.out _).mono ?_; rintro e w7 ⟨rfl, rfl⟩)
              | (go_at_call 96; refine (wys_goes (HA.out _ HB6.out) _ _).mono ?_; rintro e w8 ⟨rfl, ht⟩; have HT := Lib.hid (ScrTo.after HB6.out ht); clear ht))
             go_ret
             exact ⟨rfl, by rw [HSS.out]; exact ScrTo.after HB6.out (ScrTo.refl (HA.out _ HB6.out).scr)⟩
           · have hS : S' = (if 0 ≤ IntKind.i64.wrap (v1 - 1) ∧ IntKind.i64.wrap (v1 - 1) < (S.D.R : Int) ∧ 0 ≤ IntKind.i64.wrap (v2 - 1) ∧ IntKind.i64.wrap (v2 - 1) < (S.D.C : Int) then moveS S ⟨IntKind.i64.wrap (v1 - 1), IntKind.i64.wrap (v2 - 1)⟩ else S) := by
              rw [HS'.out]
              unfold addr97 numOk lessB
              rw [hn1, hn2]
              rfl
             have HSS := Lib.hid hS
             clear hS hn1 hn2 HV1 HV2
             generalize hx1 : IntKind.i64.wrap (v1 - 1) = x1 at *
             generalize hx2 : IntKind.i64.wrap (v2 - 1) = x2 at *
             go_wp2_with (first
              | (have hbq := HB5.out; clear hbq; go_at_call 95; refine (HP2.out _).mono ?_; rintro e w6 ⟨rfl, hb6⟩; have HB6 := Lib.hid (Below.later HB5.out hb6 HB5.out.size); clear hb6)
              | (go_at_call 95; refine (HP1.out _).mono ?_; rintro e w5 ⟨rfl, hb5⟩; have HB5 := Lib.hid (Below.later HB4.out hb5 HB4.out.size); clear hb5)
              | (go_at_call 93; refine (HSF.out _).mono ?_; rintro e w7 ⟨rfl, rfl⟩)
              | (go_at_call 96; refine (wys_goes (HA.out _ HB6.out) _ _).mono ?_; rintro e w8 ⟨rfl, ht⟩; have HT := Lib.hid (ScrTo.after HB6.out ht); clear ht))
             go_ret
             exact ⟨rfl, by rw [HSS.out]; exact HT.out⟩
     · have hne : ∀ W, Sem.run Tryz.prog (binOp .eql 135 (.iface t p) .nilIface) W = .ok (.bool false) W := fun W => rfl
       have hS : S' = S := by
        rw [HS'.out]
        exact if_neg (by simp [numOk, hn2])
       have HSS := Lib.hid hS
       clear hS
       go_wp2_with (first
        | (have hbq := HB5.out; clear hbq; go_at_call 95; refine (HP2.out _).mono ?_; rintro e w6 ⟨rfl, hb6⟩; have HB6 := Lib.hid (Below.later HB5.out hb6 HB5.out.size); clear hb6)
        | (go_at_call 95; refine (HP1.out _).mono ?_; rintro e w5 ⟨rfl, hb5⟩; have HB5 := Lib.hid (Below.later HB4.out hb5 HB4.out.size); clear hb5)
        | (go_at_call 93; refine (HSF.out _).mono ?_; rintro e w7 ⟨rfl, rfl⟩)
        | (go_at_call 96; refine (wys_goes (HA.out _ HB6.out) _ _).mono ?_; rintro e w8 ⟨rfl, ht⟩; have HT := Lib.hid (ScrTo.after HB6.out ht); clear ht))
       go_ret
       exact ⟨rfl, by rw [HSS.out]; exact ScrTo.after HB4.out (ScrTo.refl (HA.out _ HB4.out).scr)⟩
   · have hne : ∀ W, Sem.run Tryz.prog (binOp .eql 135 (.iface t p) .nilIface) W = .ok (.bool false) W := fun W => rfl
     have hS : S' = S := by
      rw [HS'.out]
      exact if_neg (by simp [numOk, hn1])
     have HSS := Lib.hid hS
     clear hS
     go_wp2_with (first
      | (have hbq := HB5.out; clear hbq; go_at_call 95; refine (HP2.out _).mono ?_; rintro e w6 ⟨rfl, hb6⟩; have HB6 := Lib.hid (Below.later HB5.out hb6 HB5.out.size); clear hb6)
      | (go_at_call 95; refine (HP1.out _).mono ?_; rintro e w5 ⟨rfl, hb5⟩; have HB5 := Lib.hid (Below.later HB4.out hb5 HB4.out.size); clear hb5)
      | (go_at_call 93; refine (HSF.out _).mono ?_; rintro e w7 ⟨rfl, rfl⟩)
      | (go_at_call 96; refine (wys_goes (HA.out _ HB6.out) _ _).mono ?_; rintro e w8 ⟨rfl, ht⟩; have HT := Lib.hid (ScrTo.after HB6.out ht); clear ht))
     go_ret
     exact ⟨rfl, by rw [HSS.out]; exact ScrTo.after HB4.out (ScrTo.refl (HA.out _ HB4.out).scr)⟩
end
section
theorem goesW_eq (A : Wy) (r c : Int) : goesW A r c = { A with S := if 0 ≤ r ∧ r < (A.S.D.R : Int) ∧ 0 ≤ c ∧ c < (A.S.D.C : Int) then moveS A.S ⟨r, c⟩ else A.S } := by
 unfold goesW
 split <;> rfl
theorem addr97_eq (A : Wy) (k : Bool) (r c : Int) : (if k = true then goesW A r c else A) = { A with S := addr97 A.S k r c } := by
 unfold addr97
 rw [goesW_eq]
 split <;> rfl
theorem u8_neq {b : UInt8} {n : UInt8} (h : b ≠ n) : b.toNat ≠ n.toNat := fun e => h (UInt8.toNat_inj.1 e)
theorem wys_end {w : World} {tp sp qp lb fr : Nat} {F FT : Nat → Prop} {A : Wy} (h : WyAt w tp sp qp lb fr F A) (hF : ∀ k, FT k ↔ footY tp qp lb F k) (b : UInt8) (l : List UInt8) (hl : l.length ≤ 1000000) (hw : waitsW b l = false) : Calls Tryz.prog 56 #[.pointer (some ⟨tp, 0, none⟩), .int .u8 b.toNat, .string ⟨l.toArray⟩] w fun e w' => e = .returned (.bool (endW A b l).2) ∧ WTermTo w w' tp sp qp FT (endW A b l).1 := by
 unfold endW
 by_cases h61 : b = 61
 · subst h61
   rw [if_pos rfl]
   have hw2 : decide (l.length < 2) = false := hw
   match l, hw2 with
   | x :: y :: t, _ =>
     rw [goesW_eq]
     exact (wend_61 h.wys x y t).mono fun e w' h' => ⟨h'.1, WTerm.scrTo h hF h'.2⟩
 rw [if_neg h61]
 by_cases h97 : b = 97
 · subst h97
   rw [if_pos rfl, addr97_eq]
   exact (wend_97 h.wys h.lib l hl).mono fun e w' h' => ⟨h'.1, WTerm.scrTo h hF h'.2⟩
 rw [if_neg h97]
 by_cases h70 : b = 70
 · subst h70
   rw [if_pos rfl]
   exact (wend_70 h.box l hl).mono fun e w' h' => ⟨h'.1, WTerm.boxed h hF rfl rfl rfl rfl h'.2.1 h.len h'.2.2⟩
 rw [if_neg h70]
 by_cases h72 : b = 72
 · subst h72
   rw [if_pos rfl]
   by_cases h50 : l = [50]
   · subst h50
     rw [if_pos rfl]
     exact (wend_72_2 h.box).mono fun e w' h' => ⟨h'.1, WTerm.boxed h hF rfl rfl rfl rfl h'.2.1 h.len h'.2.2⟩
   rw [if_neg h50]
   by_cases h51 : l = [51]
   · subst h51
     rw [if_pos rfl]
     exact (wend_72_3 h.box).mono fun e w' h' => ⟨h'.1, WTerm.boxed h hF rfl rfl rfl rfl h'.2.1 h.len h'.2.2⟩
   rw [if_neg h51]
   exact (wend_72_n tp l h50 h51 w).mono fun e w' h' => ⟨h'.1, h'.2.symm ▸ WTermTo.refl ⟨lb, fr, F, h, hF⟩⟩
 rw [if_neg h72]
 by_cases h71 : b = 71
 · subst h71
   rw [if_pos rfl]
   have hw2 : decide (l = []) = false := hw
   match l, hw2 with
   | x :: t, _ =>
     show Calls _ _ _ _ fun e w' => e = .returned (.bool false) ∧ WTermTo w w' tp sp qp FT (match bitsW x.toNat with | none => A | some a => if A.emb = true then putW A 32 (a + 1) 0 else { A with attr := a })
     cases hb : bitsW x.toNat with
     | none => exact (wend_71_n tp x t hb w).mono fun e w' h' => ⟨h'.1, h'.2.symm ▸ WTermTo.refl ⟨lb, fr, F, h, hF⟩⟩
     | some a =>
       by_cases he : A.emb = true
       · simp only [if_pos he]
         exact (wend_71_on h.wys x t a hb he).mono fun e w' h' => ⟨h'.1, WTerm.scrTo h hF h'.2⟩
       · simp only [if_neg he]
         exact (wend_71_off h.box x t a hb (by cases hq : A.emb <;> simp_all)).mono fun e w' h' => ⟨h'.1, WTerm.boxed h hF rfl rfl rfl rfl h'.2.1 h.len h'.2.2⟩
 rw [if_neg h71]
 exact wend_one h hF b.toNat b.toNat_lt l ⟨u8_neq h61, u8_neq h97, u8_neq h70, u8_neq h72, u8_neq h71⟩
end
end Go.Proofs.YteoeooijpjehpaaGreatDoor
