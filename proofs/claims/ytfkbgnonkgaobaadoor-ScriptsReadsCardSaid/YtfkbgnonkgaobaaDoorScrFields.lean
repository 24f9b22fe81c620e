/- Walks: words, fields of scripts. -/
import Derived.Test.YtfkbgnonkgaobaaDoorScrNumb
import Derived.Test.YtfkbgnonkgaobaaDoorScrCheck
import Derived.Deep.DeepCutAuto
namespace Go.Proofs.YtfkbgnonkgaobaaDoor
open Go.RowKit
set_option linter.unusedSimpArgs false
set_option linter.unusedVariables false

def wordsV : Value := .agg #[.string ⟨#[]⟩, .string ⟨#[102, 101, 101, 100]⟩, .string ⟨#[112, 114, 101, 115, 115]⟩, .string ⟨#[100, 114, 97, 105, 110]⟩, .string ⟨#[114, 101, 115, 101, 116]⟩, .string ⟨#[114, 101, 115, 105, 122, 101]⟩, .string ⟨#[115, 119, 105, 116, 99, 104]⟩]
theorem words_any (w : World) : Calls Tryd.prog 36 #[] w fun e w' => e = .returned wordsV ∧ Below w.heap.size w w' := by
  go_enter Tryd.func36, Tryd.ntmps36
  go_wp2
  refine bodyPost_ret (v := .agg #[_, _, _, _, _, _, _]) (by simp [results, Tryd.results36, go_sem]) rfl ⟨rfl, ?_⟩
  exact (Below.refl _ _).alloc (Nat.le_refl _) _
theorem words_at1 (w : World) : (Instr.index 77 wordsV (.int .i64 1)).run Tryd.prog w = .ok (.string ⟨#[102, 101, 101, 100]⟩) w := by kernel_rfl
theorem words_at2 (w : World) : (Instr.index 77 wordsV (.int .i64 2)).run Tryd.prog w = .ok (.string ⟨#[112, 114, 101, 115, 115]⟩) w := by kernel_rfl
theorem words_at3 (w : World) : (Instr.index 77 wordsV (.int .i64 3)).run Tryd.prog w = .ok (.string ⟨#[100, 114, 97, 105, 110]⟩) w := by kernel_rfl
theorem words_at4 (w : World) : (Instr.index 77 wordsV (.int .i64 4)).run Tryd.prog w = .ok (.string ⟨#[114, 101, 115, 101, 116]⟩) w := by kernel_rfl
theorem words_at5 (w : World) : (Instr.index 77 wordsV (.int .i64 5)).run Tryd.prog w = .ok (.string ⟨#[114, 101, 115, 105, 122, 101]⟩) w := by kernel_rfl
theorem words_at6 (w : World) : (Instr.index 77 wordsV (.int .i64 6)).run Tryd.prog w = .ok (.string ⟨#[115, 119, 105, 116, 99, 104]⟩) w := by kernel_rfl
theorem cell_one_set (w3 : World) (p : Addr) (v x : Value) (t : TypeId) : ∀ (j : Nat) (u : Value), [x][j]? = some u → ((w3.setCell p v).alloc (.cells #[x] t)).cell? ((⟨w3.heap.size, 0, none⟩ : Addr).add j) = some u := by
  have h := cell_one_new (w3.setCell p v) x t
  rw [show (w3.setCell p v).heap.size = w3.heap.size by simp [World.setCell]] at h
  exact h
theorem Kept.drew {g : Nat} {W1 : World} {d : Int} {T : ByteArray} {k c : Int} {s l : Bool} {r o z : Int} {w' : World} (h : Kept g W1 d T k c s l r o z w') : Kept g W1 d T k c s l r o z w'.drew :=
  h.below (Below.refl _ _).drew
theorem Kept.set {g : Nat} {W1 : World} {d : Int} {T : ByteArray} {k c : Int} {s l : Bool} {r o z : Int} {w' : World} (h : Kept g W1 d T k c s l r o z w') {p : Addr} (hp : g + 1 ≤ p.block) (u : Value) : Kept g W1 d T k c s l r o z (w'.setCell p u) :=
  h.below ((Below.refl _ _).setCell hp u)
theorem box_new (W : World) (o : Obj) : (W.alloc o).heap[W.heap.size]? = some o := by
  show (W.heap.push _)[W.heap.size]? = _
  simp
theorem second_row {w w2 : World} {o1 o2 : Obj} (hb2 : Below ((w.alloc o1).drew.alloc o2).heap.size ((w.alloc o1).drew.alloc o2) w2) : w2.heap[w.heap.size + 1]? = some o2 := by
  have h := box_new (w.alloc o1).drew o2
  rw [show (w.alloc o1).drew.heap.size = w.heap.size + 1 from World.size_alloc _ _] at h
  rw [hb2.block _ (by simp)]
  exact h
theorem second_facts {w2 : World} {g : Nat} {v : Value} {t : TypeId} (h : w2.heap[g]? = some (.cells #[v] t (0, 0))) : w2.cell? ⟨g, 0, none⟩ = some v ∧ w2.frozen? ⟨g, 0, none⟩ = false ∧ (∀ o, (w2.alloc o).cell? ⟨g, 0, none⟩ = some v) ∧ ∀ o, (w2.alloc o).frozen? ⟨g, 0, none⟩ = false := by
  have hc : w2.cell? ⟨g, 0, none⟩ = some v := by rw [cell_of_row w2 g 0 _ _ _ h]; rfl
  have hlt := (Array.getElem?_eq_some_iff.1 h).1
  exact ⟨hc, frozen_row h 0, cell_alloc_all hc, fun o => frozen_row ((Below.heap_alloc w2 o g hlt).trans h) 0⟩
theorem out_rows {base gb g1 : Nat} {W : World} {x : List UInt8} (h0 : base ≤ gb) (h1 : base ≤ g1) (hg : W.heap[gb]? = some (.cells #[.slice (some ⟨g1, 0, none⟩) 1 1] 64 (0, 0))) (hr : W.heap[g1]? = some (.cells #[.string ⟨x.toArray⟩] 9 (0, 0))) : OutAt base gb [x] W :=
  ⟨h0, _, hg, by simp [strsV], .inr ⟨g1, 1, #[.string ⟨x.toArray⟩], rfl, h1, hr, by simp, by unfold maxLen; omega, by simp, by simp [strsV]⟩⟩
theorem out_w1 {base : Nat} (W : World) (x : List UInt8) (h : base ≤ W.heap.size) : OutAt base (W.heap.size + 1) [x] ((W.alloc (.cells #[.string ⟨x.toArray⟩] 9)).alloc (.cells #[.slice (some ⟨W.heap.size, 0, none⟩) 1 1] 64)) := by
  have h2 := box_new (W.alloc (.cells #[.string ⟨x.toArray⟩] 9)) (.cells #[.slice (some ⟨W.heap.size, 0, none⟩) 1 1] 64)
  rw [World.size_alloc] at h2
  exact out_rows (by omega) h h2 ((Below.heap_alloc _ _ _ (by simp)).trans (box_new _ _))
theorem out_w2 {base : Nat} (W : World) (x : List UInt8) (h : base ≤ W.heap.size) : OutAt base W.heap.size [x] ((W.alloc (.cells #[.slice (some ⟨W.heap.size + 1, 0, none⟩) 1 1] 64)).alloc (.cells #[.string ⟨x.toArray⟩] 9)) := by
  have h2 := box_new (W.alloc (.cells #[.slice (some ⟨W.heap.size + 1, 0, none⟩) 1 1] 64)) (.cells #[.string ⟨x.toArray⟩] 9)
  rw [World.size_alloc] at h2
  exact out_rows h (by omega) ((Below.heap_alloc _ _ _ (by simp)).trans (box_new _ _)) h2
theorem cell_row0 {W : World} {g : Nat} {v : Value} {t : TypeId} (h : W.heap[g]? = some (.cells #[v] t (0, 0))) : W.cell? ⟨g, 0, none⟩ = some v := by
  rw [cell_of_row W g 0 _ _ _ h]; rfl
/-- One word more, all that is known behind it: the box ahead of the put, the box behind it, the step's own box. -/
theorem put_all {g gb : Nat} {W1 W w3 : World} {d : Int} {T : ByteArray} {k c : Int} {s l : Bool} {r o z : Int} {n : Nat} {xs : List Value} {D : Value} {v v' : Value} {ob : Obj} (hk : Kept g W1 d T k c s l r o z W) (h0 : g + 1 ≤ gb) (hg : W.heap[gb]? = some (.cells #[v] 64 (0, 0))) (hown : W.ownsRow (g + 1) 9 1 v n xs)
    (hown' : w3.ownsRow (g + 1) 9 1 v' (n + 1) (xs ++ [D])) (hgrow : (W.alloc ob).grownBy w3 v.ownBlock) :
    w3.cell? ⟨gb, 0, none⟩ = some v ∧ w3.frozen? ⟨gb, 0, none⟩ = false ∧ (w3.setCell ⟨gb, 0, none⟩ v').heap[gb]? = some (.cells #[v'] 64 (0, 0)) ∧ (w3.setCell ⟨gb, 0, none⟩ v').ownsRow (g + 1) 9 1 v' (n + 1) (xs ++ [D]) ∧
      (w3.setCell ⟨gb, 0, none⟩ v').cell? ⟨gb, 0, none⟩ = some v' ∧ Kept g W1 d T k c s l r o z (w3.setCell ⟨gb, 0, none⟩ v') := by
  obtain ⟨hg3, hc3, hf3⟩ := box_facts hown hg (Below.refl _ _) hgrow
  have h4 : (w3.setCell ⟨gb, 0, none⟩ v').heap[gb]? = some (.cells #[v'] 64 (0, 0)) := heap_set_same hg3 0 v'
  have hks := hk.size
  refine ⟨hc3, hf3, h4, ?_, cell_row0 h4, ?_⟩
  · exact hown'.kept (row := some gb) ⟨rfl, rfl, rfl, by simp [World.setCell], fun k _ hk => Below.heap_setCell _ _ _ _ (fun e => hk (by simp [e]))⟩ (Or.inr (ownsRow_ne hown' hg3 (by decide)))
  · exact Kept.set (hk.below (((Below.refl _ _).alloc hks _).grown hgrow (by simp; omega) (fun j e => ownsRow_bs hown e))) h0 _
/-- The first word is put into the new box. -/
theorem out_first {base gb g1 : Nat} {W : World} {v0 : Value} {x : List UInt8} (h0 : base ≤ gb) (h1 : base ≤ g1) (hg : W.heap[gb]? = some (.cells #[v0] 64 (0, 0))) (hr : W.heap[g1]? = some (.cells #[.string ⟨x.toArray⟩] 9 (0, 0))) :
    OutAt base gb [x] (W.setCell ⟨gb, 0, none⟩ (.slice (some ⟨g1, 0, none⟩) 1 1)) := by
  have hne : g1 ≠ gb := fun e => by
    subst e
    rw [hg] at hr
    injection hr with hr
    injection hr with _ ht
    exact absurd ht (by decide)
  refine ⟨h0, _, heap_set_same hg 0 _, ?_⟩
  exact ⟨by simp [strsV], .inr ⟨g1, 1, #[.string ⟨x.toArray⟩], rfl, h1, by rw [heap_set_other 0 _ hne]; exact hr, by simp, by unfold maxLen; omega, by simp, by simp [strsV]⟩⟩

set_option maxRecDepth 100000 in
set_option maxHeartbeats 2000000 in
theorem fields_3 (T : ByteArray) (k c : Int) (s l : Bool) (r o z : Int) (w : World) (ht : PowTab w) : Calls Tryd.prog 33 #[.agg #[.int .i64 3, .string T, .int .i64 k, .int .i64 c, .bool s, .bool l, .int .i64 r, .int .i64 o, .int .i64 z]] w fun e w' => ∃ v, e = .returned v ∧ w'.ownsRow (w.heap.size + 1) 9 1 v 1 (strsV [[100, 114, 97, 105, 110]]) ∧ Below w.heap.size w w' := by
  have HK := Lib.hid (fun s0 : TypeId => Kept.start w 3 T k c s l r o z s0)
  have HWD := Lib.hid words_any
  have hix := words_at3
  unfold wordsV at hix
  go_enter Tryd.func33, Tryd.ntmps33
  go_upto_region 1 with fail
  go_cut [3] from 5 to 9 (fun p wx => ∃ gb, p = .pointer (some ⟨gb, 0, none⟩) ∧ OutAt (w.heap.size + 1) gb [[100, 114, 97, 105, 110]] wx ∧ Kept w.heap.size (w.alloc (.cells #[.int .i64 3, .string T, .int .i64 k, .int .i64 c, .bool s, .bool l, .int .i64 r, .int .i64 o, .int .i64 z] 33)) 3 T k c s l r o z wx)
  case first =>
    go_region_held3 (fun w' => Below (w.heap.size + 1) (w.alloc (.cells #[.int .i64 3, .string T, .int .i64 k, .int .i64 c, .bool s, .bool l, .int .i64 r, .int .i64 o, .int .i64 z] 33)) w' ∧ w'.cell? ⟨w.heap.size, 0, none⟩ = some (.int .i64 3) ∧ w'.cell? ⟨w.heap.size, 1, none⟩ = some (.string T) ∧ w'.cell? ⟨w.heap.size, 2, none⟩ = some (.int .i64 k) ∧ w'.cell? ⟨w.heap.size, 3, none⟩ = some (.int .i64 c) ∧ w'.cell? ⟨w.heap.size, 4, none⟩ = some (.bool s) ∧ w'.cell? ⟨w.heap.size, 5, none⟩ = some (.bool l) ∧ w'.cell? ⟨w.heap.size, 6, none⟩ = some (.int .i64 r) ∧ w'.cell? ⟨w.heap.size, 7, none⟩ = some (.int .i64 o) ∧ w'.cell? ⟨w.heap.size, 8, none⟩ = some (.int .i64 z)) (first | assumption | exact HK.out _ | exact Kept.alloc (by assumption) _ | exact Kept.call (by assumption) (by assumption) | exact ((Kept.call (HK.out _) hb2).alloc _).alloc _ | exact Kept.set (by assumption) (by have := hb2.size; simp at this ⊢; omega) _ | exact Kept.set (by assumption) (by simp) _) (first | (go_at_call 36; refine (HWD.out _).mono ?_; rintro e w2 ⟨rfl, hb2⟩; unfold wordsV; try (have hsr := second_row hb2; obtain ⟨hs1, hs2, hs3, hs4⟩ := second_facts hsr)))
    all_goals
      go_wp2_with fail
      go_meet
      have hb2s := hb2.size
      first
        | exact ⟨_, rfl, out_w1 w2 [100, 114, 97, 105, 110] (by simp at hb2s; omega), by assumption⟩
        | exact ⟨_, rfl, out_w2 w2 [100, 114, 97, 105, 110] (by simp at hb2s; omega), by assumption⟩
        | exact ⟨_, rfl, out_first (Nat.le_refl _) (by simp at hb2s; omega) ((Below.heap_alloc _ _ _ (by simp at hb2s; omega)).trans hsr) (box_new _ _), by assumption⟩
  case rest =>
    obtain ⟨gb, rfl, hout, hkept⟩ := hcut
    have hpl := ht.lt
    have hBW : Below w.heap.size w wc := ((Below.refl _ _).alloc (Nat.le_refl _) _).trans (hkept.1.mono (Nat.le_succ _))
    have hsz := hkept.size
    have hpw := ht.below hBW
    have hk := hkept
    obtain ⟨-, k0, k1, k2, k3, k4, k5, k6, k7, k8⟩ := hk
    have HOUT := Lib.hid hout
    have HKE := Lib.hid hkept
    have HPW := Lib.hid hpw
    have HBW := Lib.hid hBW
    obtain ⟨hb0, v, hg, hown0⟩ := hout
    have hown : wc.ownsRow (w.heap.size + 1) 9 1 v 1 (strsV [[100, 114, 97, 105, 110]]) := hown0
    clear hown0
    have hgl := (Array.getElem?_eq_some_iff.1 hg).1
    have HG := Lib.hid hg
    have HOW := Lib.hid hown
    obtain ⟨va, vc, rfl⟩ := ownsRow_sl hown
    have hcb : wc.cell? ⟨gb, 0, none⟩ = some (.slice va 1 vc) := by rw [cell_of_row wc gb 0 _ _ _ hg]; rfl
    clear hix HWD HK hkept hpw hBW hg hown
    go_wp2_with fail
    go_ret
    exact ⟨_, rfl, HOW.out, HBW.out⟩
set_option maxRecDepth 100000 in
set_option maxHeartbeats 2000000 in
theorem fields_4 (T : ByteArray) (k c : Int) (s l : Bool) (r o z : Int) (w : World) (ht : PowTab w) : Calls Tryd.prog 33 #[.agg #[.int .i64 4, .string T, .int .i64 k, .int .i64 c, .bool s, .bool l, .int .i64 r, .int .i64 o, .int .i64 z]] w fun e w' => ∃ v, e = .returned v ∧ w'.ownsRow (w.heap.size + 1) 9 1 v 1 (strsV [[114, 101, 115, 101, 116]]) ∧ Below w.heap.size w w' := by
  have HK := Lib.hid (fun s0 : TypeId => Kept.start w 4 T k c s l r o z s0)
  have HWD := Lib.hid words_any
  have hix := words_at4
  unfold wordsV at hix
  go_enter Tryd.func33, Tryd.ntmps33
  go_upto_region 1 with fail
  go_cut [3] from 5 to 9 (fun p wx => ∃ gb, p = .pointer (some ⟨gb, 0, none⟩) ∧ OutAt (w.heap.size + 1) gb [[114, 101, 115, 101, 116]] wx ∧ Kept w.heap.size (w.alloc (.cells #[.int .i64 4, .string T, .int .i64 k, .int .i64 c, .bool s, .bool l, .int .i64 r, .int .i64 o, .int .i64 z] 33)) 4 T k c s l r o z wx)
  case first =>
    go_region_held3 (fun w' => Below (w.heap.size + 1) (w.alloc (.cells #[.int .i64 4, .string T, .int .i64 k, .int .i64 c, .bool s, .bool l, .int .i64 r, .int .i64 o, .int .i64 z] 33)) w' ∧ w'.cell? ⟨w.heap.size, 0, none⟩ = some (.int .i64 4) ∧ w'.cell? ⟨w.heap.size, 1, none⟩ = some (.string T) ∧ w'.cell? ⟨w.heap.size, 2, none⟩ = some (.int .i64 k) ∧ w'.cell? ⟨w.heap.size, 3, none⟩ = some (.int .i64 c) ∧ w'.cell? ⟨w.heap.size, 4, none⟩ = some (.bool s) ∧ w'.cell? ⟨w.heap.size, 5, none⟩ = some (.bool l) ∧ w'.cell? ⟨w.heap.size, 6, none⟩ = some (.int .i64 r) ∧ w'.cell? ⟨w.heap.size, 7, none⟩ = some (.int .i64 o) ∧ w'.cell? ⟨w.heap.size, 8, none⟩ = some (.int .i64 z)) (first | assumption | exact HK.out _ | exact Kept.alloc (by assumption) _ | exact Kept.call (by assumption) (by assumption) | exact ((Kept.call (HK.out _) hb2).alloc _).alloc _ | exact Kept.set (by assumption) (by have := hb2.size; simp at this ⊢; omega) _ | exact Kept.set (by assumption) (by simp) _) (first | (go_at_call 36; refine (HWD.out _).mono ?_; rintro e w2 ⟨rfl, hb2⟩; unfold wordsV; try (have hsr := second_row hb2; obtain ⟨hs1, hs2, hs3, hs4⟩ := second_facts hsr)))
    all_goals
      go_wp2_with fail
      go_meet
      have hb2s := hb2.size
      first
        | exact ⟨_, rfl, out_w1 w2 [114, 101, 115, 101, 116] (by simp at hb2s; omega), by assumption⟩
        | exact ⟨_, rfl, out_w2 w2 [114, 101, 115, 101, 116] (by simp at hb2s; omega), by assumption⟩
        | exact ⟨_, rfl, out_first (Nat.le_refl _) (by simp at hb2s; omega) ((Below.heap_alloc _ _ _ (by simp at hb2s; omega)).trans hsr) (box_new _ _), by assumption⟩
  case rest =>
    obtain ⟨gb, rfl, hout, hkept⟩ := hcut
    have hpl := ht.lt
    have hBW : Below w.heap.size w wc := ((Below.refl _ _).alloc (Nat.le_refl _) _).trans (hkept.1.mono (Nat.le_succ _))
    have hsz := hkept.size
    have hpw := ht.below hBW
    have hk := hkept
    obtain ⟨-, k0, k1, k2, k3, k4, k5, k6, k7, k8⟩ := hk
    have HOUT := Lib.hid hout
    have HKE := Lib.hid hkept
    have HPW := Lib.hid hpw
    have HBW := Lib.hid hBW
    obtain ⟨hb0, v, hg, hown0⟩ := hout
    have hown : wc.ownsRow (w.heap.size + 1) 9 1 v 1 (strsV [[114, 101, 115, 101, 116]]) := hown0
    clear hown0
    have hgl := (Array.getElem?_eq_some_iff.1 hg).1
    have HG := Lib.hid hg
    have HOW := Lib.hid hown
    obtain ⟨va, vc, rfl⟩ := ownsRow_sl hown
    have hcb : wc.cell? ⟨gb, 0, none⟩ = some (.slice va 1 vc) := by rw [cell_of_row wc gb 0 _ _ _ hg]; rfl
    clear hix HWD HK hkept hpw hBW hg hown
    go_wp2_with fail
    go_ret
    exact ⟨_, rfl, HOW.out, HBW.out⟩
set_option maxRecDepth 100000 in
set_option maxHeartbeats 2000000 in
theorem fields_5 (T : ByteArray) (k c : Int) (s l : Bool) (r o z : Int) (w : World) (ht : PowTab w) (hsm : ∀ x ∈ [r, o], Vz.small x 9999 = true) : Calls Tryd.prog 33 #[.agg #[.int .i64 5, .string T, .int .i64 k, .int .i64 c, .bool s, .bool l, .int .i64 r, .int .i64 o, .int .i64 z]] w fun e w' => ∃ v, e = .returned v ∧ w'.ownsRow (w.heap.size + 1) 9 1 v 3 (strsV [[114, 101, 115, 105, 122, 101], Vz.digN r.toNat, Vz.digN o.toNat]) ∧ Below w.heap.size w w' := by
  have HSM := Lib.hid hsm
  clear hsm
  have HK := Lib.hid (fun s0 : TypeId => Kept.start w 5 T k c s l r o z s0)
  have HWD := Lib.hid words_any
  have hix := words_at5
  unfold wordsV at hix
  go_enter Tryd.func33, Tryd.ntmps33
  go_upto_region 1 with fail
  go_cut [3] from 5 to 9 (fun p wx => ∃ gb, p = .pointer (some ⟨gb, 0, none⟩) ∧ OutAt (w.heap.size + 1) gb [[114, 101, 115, 105, 122, 101]] wx ∧ Kept w.heap.size (w.alloc (.cells #[.int .i64 5, .string T, .int .i64 k, .int .i64 c, .bool s, .bool l, .int .i64 r, .int .i64 o, .int .i64 z] 33)) 5 T k c s l r o z wx)
  case first =>
    go_region_held3 (fun w' => Below (w.heap.size + 1) (w.alloc (.cells #[.int .i64 5, .string T, .int .i64 k, .int .i64 c, .bool s, .bool l, .int .i64 r, .int .i64 o, .int .i64 z] 33)) w' ∧ w'.cell? ⟨w.heap.size, 0, none⟩ = some (.int .i64 5) ∧ w'.cell? ⟨w.heap.size, 1, none⟩ = some (.string T) ∧ w'.cell? ⟨w.heap.size, 2, none⟩ = some (.int .i64 k) ∧ w'.cell? ⟨w.heap.size, 3, none⟩ = some (.int .i64 c) ∧ w'.cell? ⟨w.heap.size, 4, none⟩ = some (.bool s) ∧ w'.cell? ⟨w.heap.size, 5, none⟩ = some (.bool l) ∧ w'.cell? ⟨w.heap.size, 6, none⟩ = some (.int .i64 r) ∧ w'.cell? ⟨w.heap.size, 7, none⟩ = some (.int .i64 o) ∧ w'.cell? ⟨w.heap.size, 8, none⟩ = some (.int .i64 z)) (first | assumption | exact HK.out _ | exact Kept.alloc (by assumption) _ | exact Kept.call (by assumption) (by assumption) | exact ((Kept.call (HK.out _) hb2).alloc _).alloc _ | exact Kept.set (by assumption) (by have := hb2.size; simp at this ⊢; omega) _ | exact Kept.set (by assumption) (by simp) _) (first | (go_at_call 36; refine (HWD.out _).mono ?_; rintro e w2 ⟨rfl, hb2⟩; unfold wordsV; try (have hsr := second_row hb2; obtain ⟨hs1, hs2, hs3, hs4⟩ := second_facts hsr)))
    all_goals
      go_wp2_with fail
      go_meet
      have hb2s := hb2.size
      first
        | exact ⟨_, rfl, out_w1 w2 [114, 101, 115, 105, 122, 101] (by simp at hb2s; omega), by assumption⟩
        | exact ⟨_, rfl, out_w2 w2 [114, 101, 115, 105, 122, 101] (by simp at hb2s; omega), by assumption⟩
        | exact ⟨_, rfl, out_first (Nat.le_refl _) (by simp at hb2s; omega) ((Below.heap_alloc _ _ _ (by simp at hb2s; omega)).trans hsr) (box_new _ _), by assumption⟩
  case rest =>
    obtain ⟨gb, rfl, hout, hkept⟩ := hcut
    have hpl := ht.lt
    have hBW : Below w.heap.size w wc := ((Below.refl _ _).alloc (Nat.le_refl _) _).trans (hkept.1.mono (Nat.le_succ _))
    have hsz := hkept.size
    have hpw := ht.below hBW
    have hk := hkept
    obtain ⟨-, k0, k1, k2, k3, k4, k5, k6, k7, k8⟩ := hk
    have HOUT := Lib.hid hout
    have HKE := Lib.hid hkept
    have HPW := Lib.hid hpw
    have HBW := Lib.hid hBW
    obtain ⟨hb0, v, hg, hown0⟩ := hout
    have hown : wc.ownsRow (w.heap.size + 1) 9 1 v 1 (strsV [[114, 101, 115, 105, 122, 101]]) := hown0
    clear hown0
    have hgl := (Array.getElem?_eq_some_iff.1 hg).1
    have HG := Lib.hid hg
    have HOW := Lib.hid hown
    obtain ⟨va, vc, rfl⟩ := ownsRow_sl hown
    have hcb : wc.cell? ⟨gb, 0, none⟩ = some (.slice va 1 vc) := by rw [cell_of_row wc gb 0 _ _ _ hg]; rfl
    clear hix HWD HK hkept hpw hBW hg hown
    have HN : Hid (Calls Tryd.prog 47 #[.slice (some ⟨wc.heap.size, 0, none⟩) 2 2, .pointer (some ⟨gb, 0, none⟩)] (wc.alloc (.cells #[.int .i64 r, .int .i64 o] 3)) fun e w' => (∃ v, e = .returned v) ∧ OutAt (w.heap.size + 1) gb ([[114, 101, 115, 105, 122, 101]] ++ digsOf [r, o]) w' ∧ Below (w.heap.size + 1) (wc.alloc (.cells #[.int .i64 r, .int .i64 o] 3)) w') :=
      number_any (w.heap.size + 1) gb wc.heap.size [[114, 101, 115, 105, 122, 101]] [r, o] (wc.alloc (.cells #[.int .i64 r, .int .i64 o] 3)) (HOUT.out.below ((Below.refl _ _).alloc (Nat.le_refl _) _)) (box_new _ _) HSM.out (by simp) (by simp) (by simp; omega) (HPW.out.below ((Below.refl _ _).alloc (Nat.le_refl _) _)) (by omega)
    go_wp2_with (first | (go_at_call 47; refine HN.out.mono ?_; rintro e w2 ⟨⟨u, rfl⟩, ho2, hb2⟩; have hkp2 := ((HKE.out.alloc (.cells #[.int .i64 r, .int .i64 o] 3)).below hb2); obtain ⟨-, q0, q1, q2, q3, q4, q5, q6, q7, q8⟩ := id hkp2; have HKP := Lib.hid hkp2; have HO2 := Lib.hid ho2; obtain ⟨_, v2, hg2, hown20⟩ := ho2; have hown2 : w2.ownsRow (w.heap.size + 1) 9 1 v2 3 (strsV [[114, 101, 115, 105, 122, 101], Vz.digN r.toNat, Vz.digN o.toNat]) := hown20; clear hown20; have HOW2 := Lib.hid hown2; have HG2 := Lib.hid hg2; obtain ⟨va2, vc2, rfl⟩ := ownsRow_sl hown2; have hc2 := cell_row0 hg2; clear hg2 hown2 hkp2))
    go_ret
    exact ⟨_, rfl, HOW2.out, HBW.out.trans (((Below.refl _ _).alloc (by omega) _).trans (hb2.mono (Nat.le_succ _)))⟩
end Go.Proofs.YtfkbgnonkgaobaaDoor
