/- Walks: fields of scripts, the other kinds. -/
import Derived.Test.YtfkbgnonkgaobaaDoorScrFields
namespace Go.Proofs.YtfkbgnonkgaobaaDoor
open Go.RowKit
set_option linter.unusedSimpArgs false
set_option linter.unusedVariables false

set_option maxRecDepth 100000 in
set_option maxHeartbeats 2000000 in
theorem fields_1e (T : ByteArray) (k c : Int) (s l : Bool) (r o z : Int) (w : World) (ht : PowTab w) (hT : T.toList.isEmpty = true) : Calls Tryd.prog 33 #[.agg #[.int .i64 1, .string T, .int .i64 k, .int .i64 c, .bool s, .bool l, .int .i64 r, .int .i64 o, .int .i64 z]] w fun e w' => ∃ v, e = .returned v ∧ w'.ownsRow (w.heap.size + 1) 9 1 v 1 (strsV [[102, 101, 101, 100]]) ∧ Below w.heap.size w w' := by
  have HK := Lib.hid (fun s0 : TypeId => Kept.start w 1 T k c s l r o z s0)
  have HWD := Lib.hid words_any
  have hix := words_at1
  unfold wordsV at hix
  go_enter Tryd.func33, Tryd.ntmps33
  go_upto_region 1 with fail
  go_cut [3] from 5 to 9 (fun p wx => ∃ gb, p = .pointer (some ⟨gb, 0, none⟩) ∧ OutAt (w.heap.size + 1) gb [[102, 101, 101, 100]] wx ∧ Kept w.heap.size (w.alloc (.cells #[.int .i64 1, .string T, .int .i64 k, .int .i64 c, .bool s, .bool l, .int .i64 r, .int .i64 o, .int .i64 z] 33)) 1 T k c s l r o z wx)
  case first =>
    go_region_held3 (fun w' => Below (w.heap.size + 1) (w.alloc (.cells #[.int .i64 1, .string T, .int .i64 k, .int .i64 c, .bool s, .bool l, .int .i64 r, .int .i64 o, .int .i64 z] 33)) w' ∧ w'.cell? ⟨w.heap.size, 0, none⟩ = some (.int .i64 1) ∧ w'.cell? ⟨w.heap.size, 1, none⟩ = some (.string T) ∧ w'.cell? ⟨w.heap.size, 2, none⟩ = some (.int .i64 k) ∧ w'.cell? ⟨w.heap.size, 3, none⟩ = some (.int .i64 c) ∧ w'.cell? ⟨w.heap.size, 4, none⟩ = some (.bool s) ∧ w'.cell? ⟨w.heap.size, 5, none⟩ = some (.bool l) ∧ w'.cell? ⟨w.heap.size, 6, none⟩ = some (.int .i64 r) ∧ w'.cell? ⟨w.heap.size, 7, none⟩ = some (.int .i64 o) ∧ w'.cell? ⟨w.heap.size, 8, none⟩ = some (.int .i64 z)) (first | assumption | exact HK.out _ | exact Kept.alloc (by assumption) _ | exact Kept.call (by assumption) (by assumption) | exact ((Kept.call (HK.out _) hb2).alloc _).alloc _ | exact Kept.set (by assumption) (by have := hb2.size; simp at this ⊢; omega) _ | exact Kept.set (by assumption) (by simp) _) (first | (go_at_call 36; refine (HWD.out _).mono ?_; rintro e w2 ⟨rfl, hb2⟩; unfold wordsV; try (have hsr := second_row hb2; obtain ⟨hs1, hs2, hs3, hs4⟩ := second_facts hsr)))
    all_goals
      go_wp2_with fail
      go_meet
      have hb2s := hb2.size
      first
        | exact ⟨_, rfl, out_w1 w2 [102, 101, 101, 100] (by simp at hb2s; omega), by assumption⟩
        | exact ⟨_, rfl, out_w2 w2 [102, 101, 101, 100] (by simp at hb2s; omega), by assumption⟩
        | exact ⟨_, rfl, out_first (Nat.le_refl _) (by simp at hb2s; omega) ((Below.heap_alloc _ _ _ (by simp at hb2s; omega)).trans hsr) (box_new _ _), by assumption⟩
  case rest =>
    obtain ⟨gb, rfl, hout, hkept⟩ := hcut
    have hpl := ht.lt
    have hBW : Below w.heap.size w wc := ((Below.refl _ _).alloc (Nat.le_refl _) _).trans (hkept.1.mono (Nat.le_succ _))
    have hsz := hkept.size
    have hpw := ht.below hBW
    have hk := hkept
    obtain ⟨-, k0, k1, k2, k3, k4, k5, k6, k7, k8⟩ := hk
    have HOUT := Lib.hid hout
    have HKE := Lib.hid hkept
    have HPW := Lib.hid hpw
    have HBW := Lib.hid hBW
    obtain ⟨hb0, v, hg, hown0⟩ := hout
    have hown : wc.ownsRow (w.heap.size + 1) 9 1 v 1 (strsV [[102, 101, 101, 100]]) := hown0
    clear hown0
    have hgl := (Array.getElem?_eq_some_iff.1 hg).1
    have HG := Lib.hid hg
    have HOW := Lib.hid hown
    obtain ⟨va, vc, rfl⟩ := ownsRow_sl hown
    have hcb : wc.cell? ⟨gb, 0, none⟩ = some (.slice va 1 vc) := by rw [cell_of_row wc gb 0 _ _ _ hg]; rfl
    clear hix HWD HK hkept hpw hBW hg hown
    go_wp2_with fail
    go_ret
    exact ⟨_, rfl, HOW.out, HBW.out⟩
set_option maxRecDepth 100000 in
set_option maxHeartbeats 2000000 in
theorem fields_1 (T : ByteArray) (k c : Int) (s l : Bool) (r o z : Int) (w : World) (ht : PowTab w) (hT : T.toList.isEmpty = false) (hz : T.size ≤ 1000) : Calls Tryd.prog 33 #[.agg #[.int .i64 1, .string T, .int .i64 k, .int .i64 c, .bool s, .bool l, .int .i64 r, .int .i64 o, .int .i64 z]] w fun e w' => ∃ v, e = .returned v ∧ w'.ownsRow (w.heap.size + 1) 9 1 v 2 (strsV [[102, 101, 101, 100], Vz.hexL T.data.toList]) ∧ Below w.heap.size w w' := by
  have HXD := Lib.hid (hexed_any T hz)
  obtain ⟨i0, hi, hz0, hz1, hz2⟩ := info_parts infoStr
  clear hz
  have HK := Lib.hid (fun s0 : TypeId => Kept.start w 1 T k c s l r o z s0)
  have HWD := Lib.hid words_any
  have hix := words_at1
  unfold wordsV at hix
  go_enter Tryd.func33, Tryd.ntmps33
  go_upto_region 1 with fail
  go_cut [3] from 5 to 9 (fun p wx => ∃ gb, p = .pointer (some ⟨gb, 0, none⟩) ∧ OutAt (w.heap.size + 1) gb [[102, 101, 101, 100]] wx ∧ Kept w.heap.size (w.alloc (.cells #[.int .i64 1, .string T, .int .i64 k, .int .i64 c, .bool s, .bool l, .int .i64 r, .int .i64 o, .int .i64 z] 33)) 1 T k c s l r o z wx)
  case first =>
    go_region_held3 (fun w' => Below (w.heap.size + 1) (w.alloc (.cells #[.int .i64 1, .string T, .int .i64 k, .int .i64 c, .bool s, .bool l, .int .i64 r, .int .i64 o, .int .i64 z] 33)) w' ∧ w'.cell? ⟨w.heap.size, 0, none⟩ = some (.int .i64 1) ∧ w'.cell? ⟨w.heap.size, 1, none⟩ = some (.string T) ∧ w'.cell? ⟨w.heap.size, 2, none⟩ = some (.int .i64 k) ∧ w'.cell? ⟨w.heap.size, 3, none⟩ = some (.int .i64 c) ∧ w'.cell? ⟨w.heap.size, 4, none⟩ = some (.bool s) ∧ w'.cell? ⟨w.heap.size, 5, none⟩ = some (.bool l) ∧ w'.cell? ⟨w.heap.size, 6, none⟩ = some (.int .i64 r) ∧ w'.cell? ⟨w.heap.size, 7, none⟩ = some (.int .i64 o) ∧ w'.cell? ⟨w.heap.size, 8, none⟩ = some (.int .i64 z)) (first | assumption | exact HK.out _ | exact Kept.alloc (by assumption) _ | exact Kept.call (by assumption) (by assumption) | exact ((Kept.call (HK.out _) hb2).alloc _).alloc _ | exact Kept.set (by assumption) (by have := hb2.size; simp at this ⊢; omega) _ | exact Kept.set (by assumption) (by simp) _) (first | (go_at_call 36; refine (HWD.out _).mono ?_; rintro e w2 ⟨rfl, hb2⟩; unfold wordsV; try (have hsr := second_row hb2; obtain ⟨hs1, hs2, hs3, hs4⟩ := second_facts hsr)))
    all_goals
      go_wp2_with fail
      go_meet
      have hb2s := hb2.size
      first
        | exact ⟨_, rfl, out_w1 w2 [102, 101, 101, 100] (by simp at hb2s; omega), by assumption⟩
        | exact ⟨_, rfl, out_w2 w2 [102, 101, 101, 100] (by simp at hb2s; omega), by assumption⟩
        | exact ⟨_, rfl, out_first (Nat.le_refl _) (by simp at hb2s; omega) ((Below.heap_alloc _ _ _ (by simp at hb2s; omega)).trans hsr) (box_new _ _), by assumption⟩
  case rest =>
    obtain ⟨gb, rfl, hout, hkept⟩ := hcut
    have hpl := ht.lt
    have hBW : Below w.heap.size w wc := ((Below.refl _ _).alloc (Nat.le_refl _) _).trans (hkept.1.mono (Nat.le_succ _))
    have hsz := hkept.size
    have hpw := ht.below hBW
    have hk := hkept
    obtain ⟨-, k0, k1, k2, k3, k4, k5, k6, k7, k8⟩ := hk
    have HOUT := Lib.hid hout
    have HKE := Lib.hid hkept
    have HPW := Lib.hid hpw
    have HBW := Lib.hid hBW
    obtain ⟨hb0, v, hg, hown0⟩ := hout
    have hown : wc.ownsRow (w.heap.size + 1) 9 1 v 1 (strsV [[102, 101, 101, 100]]) := hown0
    clear hown0
    have hgl := (Array.getElem?_eq_some_iff.1 hg).1
    have HG := Lib.hid hg
    have HOW := Lib.hid hown
    obtain ⟨va, vc, rfl⟩ := ownsRow_sl hown
    have hcb : wc.cell? ⟨gb, 0, none⟩ = some (.slice va 1 vc) := by rw [cell_of_row wc gb 0 _ _ _ hg]; rfl
    clear hix HWD HK hkept hpw hBW hg hown
    have hk1 : wc.drew.cell? ⟨w.heap.size, 1, none⟩ = some (.string T) := k1
    have hcb1 : wc.drew.cell? ⟨gb, 0, none⟩ = some (.slice va 1 vc) := hcb
    go_upto_region 6 with fail
    go_region_law (first
      | (go_simp; go_at_call 49; refine (HXD.out wc.drew).mono ?_; rintro e w2 ⟨rfl, hb2⟩; have o2 := ownsRow_keep (W := wc.drew) HOW.out hb2; have hcb2 := (hb2.cell (p := ⟨gb, 0, none⟩) hgl).trans hcb1; have hcb3 := cell_alloc_all hcb2; go_wp2_with fail)
      | (rw [if_pos (by rfl)]; refine wp_append_own _ (.tmp 18) (.tmp 22) 64 rfl (w.heap.size + 1) 9 i0 (.string ⟨#[]⟩) 1 16 Tryd.underlying64 hi hz0 hz1 hz2 rfl (by decide) _ _ _ rfl (o2.alloc _) ⟨w2.heap.size, 0, none⟩ 1 1 [.string ⟨(Vz.hexL T.data.toList).toArray⟩] rfl rfl (cell_one_new _ _ _) (by simp [Value.oneCell']) (by unfold maxLen; simp) (by simp) (by have := hb2.size; simp at this ⊢; omega) ?_; intro v' w3 hown0 hgrow _; have hown' : w3.ownsRow (w.heap.size + 1) 9 1 v' 2 _ := hown0; clear hown0; obtain ⟨va', vc', rfl⟩ := ownsRow_sl hown'; obtain ⟨hp1, hp2, hp3, hp4, hp5, hp6⟩ := put_all (Kept.call HKE.out.drew hb2) hb0 ((hb2.block _ hgl).trans HG.out) o2 hown' hgrow; have HP4 := Lib.hid hp4; have HP6 := Lib.hid hp6; clear hp3 hp4 hp6))
    all_goals
      go_wp2_with fail
      go_ret
      exact ⟨_, rfl, HP4.out, ((Below.refl _ _).alloc (Nat.le_refl _) _).trans (HP6.out.1.mono (Nat.le_succ _))⟩
set_option maxRecDepth 100000 in
set_option maxHeartbeats 2000000 in
theorem fields_6 (T : ByteArray) (k c : Int) (s l : Bool) (r o z : Int) (w : World) (ht : PowTab w) (hsm : ∀ x ∈ [z], Vz.small x 9999 = true) : Calls Tryd.prog 33 #[.agg #[.int .i64 6, .string T, .int .i64 k, .int .i64 c, .bool s, .bool l, .int .i64 r, .int .i64 o, .int .i64 z]] w fun e w' => ∃ v, e = .returned v ∧ w'.ownsRow (w.heap.size + 1) 9 1 v 2 (strsV [[115, 119, 105, 116, 99, 104], Vz.digN z.toNat]) ∧ Below w.heap.size w w' := by
  have HSM := Lib.hid hsm
  clear hsm
  have HK := Lib.hid (fun s0 : TypeId => Kept.start w 6 T k c s l r o z s0)
  have HWD := Lib.hid words_any
  have hix := words_at6
  unfold wordsV at hix
  go_enter Tryd.func33, Tryd.ntmps33
  go_upto_region 1 with fail
  go_cut [3] from 5 to 9 (fun p wx => ∃ gb, p = .pointer (some ⟨gb, 0, none⟩) ∧ OutAt (w.heap.size + 1) gb [[115, 119, 105, 116, 99, 104]] wx ∧ Kept w.heap.size (w.alloc (.cells #[.int .i64 6, .string T, .int .i64 k, .int .i64 c, .bool s, .bool l, .int .i64 r, .int .i64 o, .int .i64 z] 33)) 6 T k c s l r o z wx)
  case first =>
    go_region_held3 (fun w' => Below (w.heap.size + 1) (w.alloc (.cells #[.int .i64 6, .string T, .int .i64 k, .int .i64 c, .bool s, .bool l, .int .i64 r, .int .i64 o, .int .i64 z] 33)) w' ∧ w'.cell? ⟨w.heap.size, 0, none⟩ = some (.int .i64 6) ∧ w'.cell? ⟨w.heap.size, 1, none⟩ = some (.string T) ∧ w'.cell? ⟨w.heap.size, 2, none⟩ = some (.int .i64 k) ∧ w'.cell? ⟨w.heap.size, 3, none⟩ = some (.int .i64 c) ∧ w'.cell? ⟨w.heap.size, 4, none⟩ = some (.bool s) ∧ w'.cell? ⟨w.heap.size, 5, none⟩ = some (.bool l) ∧ w'.cell? ⟨w.heap.size, 6, none⟩ = some (.int .i64 r) ∧ w'.cell? ⟨w.heap.size, 7, none⟩ = some (.int .i64 o) ∧ w'.cell? ⟨w.heap.size, 8, none⟩ = some (.int .i64 z)) (first | assumption | exact HK.out _ | exact Kept.alloc (by assumption) _ | exact Kept.call (by assumption) (by assumption) | exact ((Kept.call (HK.out _) hb2).alloc _).alloc _ | exact Kept.set (by assumption) (by have := hb2.size; simp at this ⊢; omega) _ | exact Kept.set (by assumption) (by simp) _) (first | (go_at_call 36; refine (HWD.out _).mono ?_; rintro e w2 ⟨rfl, hb2⟩; unfold wordsV; try (have hsr := second_row hb2; obtain ⟨hs1, hs2, hs3, hs4⟩ := second_facts hsr)))
    all_goals
      go_wp2_with fail
      go_meet
      have hb2s := hb2.size
      first
        | exact ⟨_, rfl, out_w1 w2 [115, 119, 105, 116, 99, 104] (by simp at hb2s; omega), by assumption⟩
        | exact ⟨_, rfl, out_w2 w2 [115, 119, 105, 116, 99, 104] (by simp at hb2s; omega), by assumption⟩
        | exact ⟨_, rfl, out_first (Nat.le_refl _) (by simp at hb2s; omega) ((Below.heap_alloc _ _ _ (by simp at hb2s; omega)).trans hsr) (box_new _ _), by assumption⟩
  case rest =>
    obtain ⟨gb, rfl, hout, hkept⟩ := hcut
    have hpl := ht.lt
    have hBW : Below w.heap.size w wc := ((Below.refl _ _).alloc (Nat.le_refl _) _).trans (hkept.1.mono (Nat.le_succ _))
    have hsz := hkept.size
    have hpw := ht.below hBW
    have hk := hkept
    obtain ⟨-, k0, k1, k2, k3, k4, k5, k6, k7, k8⟩ := hk
    have HOUT := Lib.hid hout
    have HKE := Lib.hid hkept
    have HPW := Lib.hid hpw
    have HBW := Lib.hid hBW
    obtain ⟨hb0, v, hg, hown0⟩ := hout
    have hown : wc.ownsRow (w.heap.size + 1) 9 1 v 1 (strsV [[115, 119, 105, 116, 99, 104]]) := hown0
    clear hown0
    have hgl := (Array.getElem?_eq_some_iff.1 hg).1
    have HG := Lib.hid hg
    have HOW := Lib.hid hown
    obtain ⟨va, vc, rfl⟩ := ownsRow_sl hown
    have hcb : wc.cell? ⟨gb, 0, none⟩ = some (.slice va 1 vc) := by rw [cell_of_row wc gb 0 _ _ _ hg]; rfl
    clear hix HWD HK hkept hpw hBW hg hown
    have HN : Hid (Calls Tryd.prog 47 #[.slice (some ⟨wc.heap.size, 0, none⟩) 1 1, .pointer (some ⟨gb, 0, none⟩)] (wc.alloc (.cells #[.int .i64 z] 3)) fun e w' => (∃ v, e = .returned v) ∧ OutAt (w.heap.size + 1) gb ([[115, 119, 105, 116, 99, 104]] ++ digsOf [z]) w' ∧ Below (w.heap.size + 1) (wc.alloc (.cells #[.int .i64 z] 3)) w') :=
      number_any (w.heap.size + 1) gb wc.heap.size [[115, 119, 105, 116, 99, 104]] [z] (wc.alloc (.cells #[.int .i64 z] 3)) (HOUT.out.below ((Below.refl _ _).alloc (Nat.le_refl _) _)) (box_new _ _) HSM.out (by simp) (by simp) (by simp; omega) (HPW.out.below ((Below.refl _ _).alloc (Nat.le_refl _) _)) (by omega)
    go_wp2_with (first | (go_at_call 47; refine HN.out.mono ?_; rintro e w2 ⟨⟨u, rfl⟩, ho2, hb2⟩; have hkp2 := ((HKE.out.alloc (.cells #[.int .i64 z] 3)).below hb2); obtain ⟨-, q0, q1, q2, q3, q4, q5, q6, q7, q8⟩ := id hkp2; have HKP := Lib.hid hkp2; have HO2 := Lib.hid ho2; obtain ⟨_, v2, hg2, hown20⟩ := ho2; have hown2 : w2.ownsRow (w.heap.size + 1) 9 1 v2 2 (strsV [[115, 119, 105, 116, 99, 104], Vz.digN z.toNat]) := hown20; clear hown20; have HOW2 := Lib.hid hown2; have HG2 := Lib.hid hg2; obtain ⟨va2, vc2, rfl⟩ := ownsRow_sl hown2; have hc2 := cell_row0 hg2; clear hg2 hown2 hkp2))
    go_ret
    exact ⟨_, rfl, HOW2.out, HBW.out.trans (((Below.refl _ _).alloc (by omega) _).trans (hb2.mono (Nat.le_succ _)))⟩
end Go.Proofs.YtfkbgnonkgaobaaDoor
