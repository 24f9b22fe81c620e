/- Walks: fields of scripts, a press. -/
import Derived.Test.YtfkbgnonkgaobaaDoorScrFields
namespace Go.Proofs.YtfkbgnonkgaobaaDoor
open Go.RowKit
set_option linter.unusedSimpArgs false
set_option linter.unusedVariables false

set_option maxRecDepth 100000 in
set_option maxHeartbeats 2000000 in
theorem fields_2 (T : ByteArray) (k c : Int) (s l : Bool) (r o z : Int) (w : World) (ht : PowTab w) (hsm : ∀ x ∈ [k, c], Vz.small x 9999 = true) : Calls Tryd.prog 33 #[.agg #[.int .i64 2, .string T, .int .i64 k, .int .i64 c, .bool s, .bool l, .int .i64 r, .int .i64 o, .int .i64 z]] w fun e w' => ∃ v, e = .returned v ∧ w'.ownsRow (w.heap.size + 1) 9 1 v ([[112, 114, 101, 115, 115], Vz.digN k.toNat, Vz.digN c.toNat] ++ ((if s = true then [[115, 104, 105, 102, 116]] else []) ++ (if l = true then [[99, 116, 114, 108]] else []))).length (strsV ([[112, 114, 101, 115, 115], Vz.digN k.toNat, Vz.digN c.toNat] ++ ((if s = true then [[115, 104, 105, 102, 116]] else []) ++ (if l = true then [[99, 116, 114, 108]] else [])))) ∧ Below w.heap.size w w' := by
  have HSM := Lib.hid hsm
  clear hsm
  obtain ⟨i0, hi, hz0, hz1, hz2⟩ := info_parts infoStr
  have HK := Lib.hid (fun s0 : TypeId => Kept.start w 2 T k c s l r o z s0)
  have HWD := Lib.hid words_any
  have hix := words_at2
  unfold wordsV at hix
  go_enter Tryd.func33, Tryd.ntmps33
  go_upto_region 1 with fail
  go_cut [3] from 5 to 9 (fun p wx => ∃ gb, p = .pointer (some ⟨gb, 0, none⟩) ∧ OutAt (w.heap.size + 1) gb [[112, 114, 101, 115, 115]] wx ∧ Kept w.heap.size (w.alloc (.cells #[.int .i64 2, .string T, .int .i64 k, .int .i64 c, .bool s, .bool l, .int .i64 r, .int .i64 o, .int .i64 z] 33)) 2 T k c s l r o z wx)
  case first =>
    go_region_held3 (fun w' => Below (w.heap.size + 1) (w.alloc (.cells #[.int .i64 2, .string T, .int .i64 k, .int .i64 c, .bool s, .bool l, .int .i64 r, .int .i64 o, .int .i64 z] 33)) w' ∧ w'.cell? ⟨w.heap.size, 0, none⟩ = some (.int .i64 2) ∧ w'.cell? ⟨w.heap.size, 1, none⟩ = some (.string T) ∧ w'.cell? ⟨w.heap.size, 2, none⟩ = some (.int .i64 k) ∧ w'.cell? ⟨w.heap.size, 3, none⟩ = some (.int .i64 c) ∧ w'.cell? ⟨w.heap.size, 4, none⟩ = some (.bool s) ∧ w'.cell? ⟨w.heap.size, 5, none⟩ = some (.bool l) ∧ w'.cell? ⟨w.heap.size, 6, none⟩ = some (.int .i64 r) ∧ w'.cell? ⟨w.heap.size, 7, none⟩ = some (.int .i64 o) ∧ w'.cell? ⟨w.heap.size, 8, none⟩ = some (.int .i64 z)) (first | assumption | exact HK.out _ | exact Kept.alloc (by assumption) _ | exact Kept.call (by assumption) (by assumption) | exact ((Kept.call (HK.out _) hb2).alloc _).alloc _ | exact Kept.set (by assumption) (by have := hb2.size; simp at this ⊢; omega) _ | exact Kept.set (by assumption) (by simp) _) (first | (go_at_call 36; refine (HWD.out _).mono ?_; rintro e w2 ⟨rfl, hb2⟩; unfold wordsV; try (have hsr := second_row hb2; obtain ⟨hs1, hs2, hs3, hs4⟩ := second_facts hsr)))
    all_goals
      go_wp2_with fail
      go_meet
      have hb2s := hb2.size
      first
        | exact ⟨_, rfl, out_w1 w2 [112, 114, 101, 115, 115] (by simp at hb2s; omega), by assumption⟩
        | exact ⟨_, rfl, out_w2 w2 [112, 114, 101, 115, 115] (by simp at hb2s; omega), by assumption⟩
        | exact ⟨_, rfl, out_first (Nat.le_refl _) (by simp at hb2s; omega) ((Below.heap_alloc _ _ _ (by simp at hb2s; omega)).trans hsr) (box_new _ _), by assumption⟩
  case rest =>
    obtain ⟨gb, rfl, hout, hkept⟩ := hcut
    have hpl := ht.lt
    have hBW : Below w.heap.size w wc := ((Below.refl _ _).alloc (Nat.le_refl _) _).trans (hkept.1.mono (Nat.le_succ _))
    have hsz := hkept.size
    have hpw := ht.below hBW
    have hk := hkept
    obtain ⟨-, k0, k1, k2, k3, k4, k5, k6, k7, k8⟩ := hk
    have HOUT := Lib.hid hout
    have HKE := Lib.hid hkept
    have HPW := Lib.hid hpw
    have HBW := Lib.hid hBW
    obtain ⟨hb0, v, hg, hown0⟩ := hout
    have hown : wc.ownsRow (w.heap.size + 1) 9 1 v 1 (strsV [[112, 114, 101, 115, 115]]) := hown0
    clear hown0
    have hgl := (Array.getElem?_eq_some_iff.1 hg).1
    have HG := Lib.hid hg
    have HOW := Lib.hid hown
    obtain ⟨va, vc, rfl⟩ := ownsRow_sl hown
    have hcb : wc.cell? ⟨gb, 0, none⟩ = some (.slice va 1 vc) := by rw [cell_of_row wc gb 0 _ _ _ hg]; rfl
    clear hix HWD HK hkept hpw hBW hg hown
    have HN : Hid (Calls Tryd.prog 47 #[.slice (some ⟨wc.heap.size, 0, none⟩) 2 2, .pointer (some ⟨gb, 0, none⟩)] (wc.alloc (.cells #[.int .i64 k, .int .i64 c] 3)) fun e w' => (∃ v, e = .returned v) ∧ OutAt (w.heap.size + 1) gb ([[112, 114, 101, 115, 115]] ++ digsOf [k, c]) w' ∧ Below (w.heap.size + 1) (wc.alloc (.cells #[.int .i64 k, .int .i64 c] 3)) w') :=
      number_any (w.heap.size + 1) gb wc.heap.size [[112, 114, 101, 115, 115]] [k, c] (wc.alloc (.cells #[.int .i64 k, .int .i64 c] 3)) (HOUT.out.below ((Below.refl _ _).alloc (Nat.le_refl _) _)) (box_new _ _) HSM.out (by simp) (by simp) (by simp; omega) (HPW.out.below ((Below.refl _ _).alloc (Nat.le_refl _) _)) (by omega)
    cases s <;> cases l
    · go_wp2_with (first | (go_at_call 47; refine HN.out.mono ?_; rintro e w2 ⟨⟨u, rfl⟩, ho2, hb2⟩; have hkp2 := ((HKE.out.alloc (.cells #[.int .i64 k, .int .i64 c] 3)).below hb2); obtain ⟨-, q0, q1, q2, q3, q4, q5, q6, q7, q8⟩ := id hkp2; have HKP := Lib.hid hkp2; have HO2 := Lib.hid ho2; obtain ⟨_, v2, hg2, hown20⟩ := ho2; have hown2 : w2.ownsRow (w.heap.size + 1) 9 1 v2 3 (strsV [[112, 114, 101, 115, 115], Vz.digN k.toNat, Vz.digN c.toNat]) := hown20; clear hown20; have HOW2 := Lib.hid hown2; have HG2 := Lib.hid hg2; obtain ⟨va2, vc2, rfl⟩ := ownsRow_sl hown2; have hc2 := cell_row0 hg2; clear hg2 hown2 hkp2))
      go_ret
      exact ⟨_, rfl, HOW2.out, HBW.out.trans (((Below.refl _ _).alloc (by omega) _).trans (hb2.mono (Nat.le_succ _)))⟩
    · go_wp2_with (first | (go_at_call 47; refine HN.out.mono ?_; rintro e w2 ⟨⟨u, rfl⟩, ho2, hb2⟩; have hkp2 := ((HKE.out.alloc (.cells #[.int .i64 k, .int .i64 c] 3)).below hb2); obtain ⟨-, q0, q1, q2, q3, q4, q5, q6, q7, q8⟩ := id hkp2; have HKP := Lib.hid hkp2; have HO2 := Lib.hid ho2; obtain ⟨_, v2, hg2, hown20⟩ := ho2; have hown2 : w2.ownsRow (w.heap.size + 1) 9 1 v2 3 (strsV [[112, 114, 101, 115, 115], Vz.digN k.toNat, Vz.digN c.toNat]) := hown20; clear hown20; have HOW2 := Lib.hid hown2; have HG2 := Lib.hid hg2; obtain ⟨va2, vc2, rfl⟩ := ownsRow_sl hown2; have hc2 := cell_row0 hg2; clear hg2 hown2 hkp2) | (at_builtin; refine wpList_append_own _ rfl (.tmp 44) (.tmp 45) 64 rfl (w.heap.size + 1) 9 i0 (.string ⟨#[]⟩) 1 16 Tryd.underlying64 hi hz0 hz1 hz2 rfl (by decide) _ _ _ rfl (HOW2.out.alloc _) ⟨w2.heap.size, 0, none⟩ 1 1 [.string ⟨#[99, 116, 114, 108]⟩] rfl rfl (cell_one_new _ _ _) (by simp [Value.oneCell']) (by unfold maxLen; simp [digsOf]) (by simp [digsOf]) (by have := HKP.out.size; simp at this ⊢; omega) ?_; intro v3 w3 hown30 hgrow3 _; have hown3 : w3.ownsRow (w.heap.size + 1) 9 1 v3 4 _ := hown30; clear hown30; obtain ⟨va3, vc3, rfl⟩ := ownsRow_sl hown3; obtain ⟨hp13, hp23, hp33, hp43, hp53, hp63⟩ := put_all HKP.out hb0 HG2.out HOW2.out hown3 hgrow3; have HOW3 := Lib.hid hp43; have HG3 := Lib.hid hp33; have HKP3 := Lib.hid hp63; obtain ⟨-, r03, r13, r23, r33, r43, r53, r63, r73, r83⟩ := id hp63; clear hp33 hp43 hp63 hown3))
      go_ret
      exact ⟨_, rfl, HOW3.out, ((Below.refl _ _).alloc (Nat.le_refl _) _).trans (HKP3.out.1.mono (Nat.le_succ _))⟩
    · go_wp2_with (first | (go_at_call 47; refine HN.out.mono ?_; rintro e w2 ⟨⟨u, rfl⟩, ho2, hb2⟩; have hkp2 := ((HKE.out.alloc (.cells #[.int .i64 k, .int .i64 c] 3)).below hb2); obtain ⟨-, q0, q1, q2, q3, q4, q5, q6, q7, q8⟩ := id hkp2; have HKP := Lib.hid hkp2; have HO2 := Lib.hid ho2; obtain ⟨_, v2, hg2, hown20⟩ := ho2; have hown2 : w2.ownsRow (w.heap.size + 1) 9 1 v2 3 (strsV [[112, 114, 101, 115, 115], Vz.digN k.toNat, Vz.digN c.toNat]) := hown20; clear hown20; have HOW2 := Lib.hid hown2; have HG2 := Lib.hid hg2; obtain ⟨va2, vc2, rfl⟩ := ownsRow_sl hown2; have hc2 := cell_row0 hg2; clear hg2 hown2 hkp2) | (at_builtin; refine wpList_append_own _ rfl (.tmp 38) (.tmp 39) 64 rfl (w.heap.size + 1) 9 i0 (.string ⟨#[]⟩) 1 16 Tryd.underlying64 hi hz0 hz1 hz2 rfl (by decide) _ _ _ rfl (HOW2.out.alloc _) ⟨w2.heap.size, 0, none⟩ 1 1 [.string ⟨#[115, 104, 105, 102, 116]⟩] rfl rfl (cell_one_new _ _ _) (by simp [Value.oneCell']) (by unfold maxLen; simp [digsOf]) (by simp [digsOf]) (by have := HKP.out.size; simp at this ⊢; omega) ?_; intro v3 w3 hown30 hgrow3 _; have hown3 : w3.ownsRow (w.heap.size + 1) 9 1 v3 4 _ := hown30; clear hown30; obtain ⟨va3, vc3, rfl⟩ := ownsRow_sl hown3; obtain ⟨hp13, hp23, hp33, hp43, hp53, hp63⟩ := put_all HKP.out hb0 HG2.out HOW2.out hown3 hgrow3; have HOW3 := Lib.hid hp43; have HG3 := Lib.hid hp33; have HKP3 := Lib.hid hp63; obtain ⟨-, r03, r13, r23, r33, r43, r53, r63, r73, r83⟩ := id hp63; clear hp33 hp43 hp63 hown3))
      go_ret
      exact ⟨_, rfl, HOW3.out, ((Below.refl _ _).alloc (Nat.le_refl _) _).trans (HKP3.out.1.mono (Nat.le_succ _))⟩
    · go_wp2_with (first | (go_at_call 47; refine HN.out.mono ?_; rintro e w2 ⟨⟨u, rfl⟩, ho2, hb2⟩; have hkp2 := ((HKE.out.alloc (.cells #[.int .i64 k, .int .i64 c] 3)).below hb2); obtain ⟨-, q0, q1, q2, q3, q4, q5, q6, q7, q8⟩ := id hkp2; have HKP := Lib.hid hkp2; have HO2 := Lib.hid ho2; obtain ⟨_, v2, hg2, hown20⟩ := ho2; have hown2 : w2.ownsRow (w.heap.size + 1) 9 1 v2 3 (strsV [[112, 114, 101, 115, 115], Vz.digN k.toNat, Vz.digN c.toNat]) := hown20; clear hown20; have HOW2 := Lib.hid hown2; have HG2 := Lib.hid hg2; obtain ⟨va2, vc2, rfl⟩ := ownsRow_sl hown2; have hc2 := cell_row0 hg2; clear hg2 hown2 hkp2) | (at_builtin; refine wpList_append_own _ rfl (.tmp 38) (.tmp 39) 64 rfl (w.heap.size + 1) 9 i0 (.string ⟨#[]⟩) 1 16 Tryd.underlying64 hi hz0 hz1 hz2 rfl (by decide) _ _ _ rfl (HOW2.out.alloc _) ⟨w2.heap.size, 0, none⟩ 1 1 [.string ⟨#[115, 104, 105, 102, 116]⟩] rfl rfl (cell_one_new _ _ _) (by simp [Value.oneCell']) (by unfold maxLen; simp [digsOf]) (by simp [digsOf]) (by have := HKP.out.size; simp at this ⊢; omega) ?_; intro v3 w3 hown30 hgrow3 _; have hown3 : w3.ownsRow (w.heap.size + 1) 9 1 v3 4 _ := hown30; clear hown30; obtain ⟨va3, vc3, rfl⟩ := ownsRow_sl hown3; obtain ⟨hp13, hp23, hp33, hp43, hp53, hp63⟩ := put_all HKP.out hb0 HG2.out HOW2.out hown3 hgrow3; have HOW3 := Lib.hid hp43; have HG3 := Lib.hid hp33; have HKP3 := Lib.hid hp63; obtain ⟨-, r03, r13, r23, r33, r43, r53, r63, r73, r83⟩ := id hp63; clear hp33 hp43 hp63 hown3) | (at_builtin; refine wpList_append_own _ rfl (.tmp 44) (.tmp 45) 64 rfl (w.heap.size + 1) 9 i0 (.string ⟨#[]⟩) 1 16 Tryd.underlying64 hi hz0 hz1 hz2 rfl (by decide) _ _ _ rfl (HOW3.out.alloc _) ⟨w3.heap.size, 0, none⟩ 1 1 [.string ⟨#[99, 116, 114, 108]⟩] rfl rfl (cell_one_set _ _ _ _ _) (by simp [Value.oneCell']) (by unfold maxLen; simp [digsOf]) (by simp [digsOf]) (by have := HKP3.out.size; simp at this ⊢; omega) ?_; intro v4 w4 hown40 hgrow4 _; have hown4 : w4.ownsRow (w.heap.size + 1) 9 1 v4 5 _ := hown40; clear hown40; obtain ⟨va4, vc4, rfl⟩ := ownsRow_sl hown4; obtain ⟨hp14, hp24, hp34, hp44, hp54, hp64⟩ := put_all HKP3.out hb0 HG3.out HOW3.out hown4 hgrow4; have HOW4 := Lib.hid hp44; have HG4 := Lib.hid hp34; have HKP4 := Lib.hid hp64; obtain ⟨-, r04, r14, r24, r34, r44, r54, r64, r74, r84⟩ := id hp64; clear hp34 hp44 hp64 hown4))
      go_ret
      exact ⟨_, rfl, HOW4.out, ((Below.refl _ _).alloc (Nat.le_refl _) _).trans (HKP4.out.1.mono (Nat.le_succ _))⟩
end Go.Proofs.YtfkbgnonkgaobaaDoor
