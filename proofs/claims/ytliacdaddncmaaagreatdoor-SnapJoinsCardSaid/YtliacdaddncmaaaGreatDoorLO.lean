import Derived.Test.YtliacdaddncmaaaGreatDoorLF
import Derived.Test.YtliacdaddncmaaaGreatDoorShelfG
import Derived.Shelf.SlIterI.Nil
import Derived.Shelf.SortM.Plain
import Derived.Shelf.SortM.SortNone
import Derived.Shelf.SlicesE.IndexFunc
import Derived.LoopN
import Derived.Maps.OwnSet
import Derived.Test.YtliacdaddncmaaaGreatDoorLJ
import Derived.Lib.SlMapFilter
import Derived.Maps.RangeWalk
import Derived.Laws.IdiomRangeMap
import Derived.Deep.LoopGhost
import Derived.Test.YtliacdaddncmaaaGreatDoorLH
import Derived.Test.YtliacdaddncmaaaGreatDoorLA
import Derived.Test.YtliacdaddncmaaaGreatDoorLM
import Derived.MapKept

/- Walks: the stops' List, by the library's contracts. -/
namespace Go.Proofs.YtliacdaddncmaaaGreatDoor
open Go.RowKit Go.Maps Go.Sort Go.Shelf
set_option linter.unusedSimpArgs false
set_option linter.unusedVariables false

theorem sortsA (m : Nat) : AnyZI.SortsIn Tryz.prog Tryz.sortedA_ren Fence.wide m :=
  ⟨fun blk off cap ss W hH hblk hsz => callsIn_wide.2 (AnyM.slices_Sort_int Tryz.sortA blk off cap ss W hH hblk hsz),
   fun p cap W => callsIn_wide.2 (AnyM.slices_Sort_int_none Tryz.sortA p cap W)⟩
/-- The stops as whole numbers. -/
def stopsI (C : Nat) (T : Nat → Bool) : List Int := (Vz.stopsL C T).map fun c : Nat => (c : Int)
theorem keys_stops (C : Nat) (T : Nat → Bool) : intKeys (stopsD C T) = stopsI C T := by
  unfold stopsD intKeys stopsI
  show List.map (fun p : Lit × DataW Unit => Go.intOf p.1) (List.map _ _) = _
  rw [List.map_map]
  rfl
theorem stopsI_sorted (C : Nat) (T : Nat → Bool) : (stopsI C T).mergeSort (fun x y => decide (x ≤ y)) = stopsI C T := by
  refine List.mergeSort_of_pairwise ?_
  unfold stopsI
  rw [List.pairwise_map]
  refine (List.Pairwise.filter _ List.pairwise_lt_range).imp ?_
  intro a b hab
  exact decide_eq_true (by omega)
set_option maxHeartbeats 2000000 in
/-- The stops, rising, in a new slice; nil where there is none. -/
theorem tlist_ok (tp mb C : Nat) (T : Nat → Bool) (w : World) (h : TabsAt w tp mb C T) (hC : C ≤ 255) :
    Calls Tryz.prog 48 #[.pointer (some ⟨tp, 0, none⟩)] w fun e w' => ∃ v : Value, e = .returned v ∧
      w'.ownsRow w.heap.size 3 1 v (stopsI C T).length ((stopsI C T).map (Value.int .i64)) ∧ (v = .slice none 0 0 ↔ stopsI C T = []) ∧ Below w.heap.size w w' := by
  refine (callsIn_wide (n := 6)).1 ?_
  have hown := h.2.1
  have hm1 : w.cell? ⟨tp, 1, none⟩ = some (.map (some mb)) := cell_row h.1 1
  have hbl := hown.lt
  have hsz := stops_size C T
  have hmax : Maps.size (stopsD C T) ≤ maxLen := by unfold maxLen; omega
  have hbytes : Maps.size (stopsD C T) * 8 ≤ 140737488355328 := by omega
  have hseq : SeqGives Fence.wide 2 Tryz.prog 99 #[.pointer (some ⟨w.heap.size, 0, none⟩)] encZ (fun ss => ss.Perm (intKeys (stopsD C T))) (Maps.size (stopsD C T)) (w.alloc (.cells #[.map (some mb)] 128)) :=
    AnyZI.keys_gives (ρ := Tryz.keysA_ren) { Tryz.keysA with } Fence.wide _ trivial rfl (by omega) w.heap.size mb C (stopsD C T) _ (by simp) (by simp) (by
      obtain ⟨es, clock, hb, Ft, hs, hD⟩ := hown
      exact ⟨es, clock, (Below.heap_alloc _ _ mb hbl).trans hb, Ft, hs, hD⟩)
  have cK : ∀ mb' W, CallsIn Fence.wide 5 Tryz.prog 77 #[.map mb'] W fun e w' => e = .returned (.func (.func 99) #[] #[.pointer (some ⟨W.heap.size, 0, none⟩)]) ∧ w' = W.alloc (.cells #[.map mb'] 128) := fun mb' W => AnyZI.keys_in Tryz.keysA Fence.wide 5 trivial rfl mb' W
  have cS := AnyZI.sorted_in Tryz.sortedA Fence.wide 5 trivial trivial trivial trivial rfl (by omega) (sortsA _) (enters_of Tryz.func98 (by kernel_rfl) rfl) 99 #[.pointer (some ⟨w.heap.size, 0, none⟩)] trivial (enters_of Tryz.func99 (by kernel_rfl) rfl) _ _ hmax hbytes _ hseq
  change CallsIn _ _ Tryz.prog 76 _ _ _ at cS
  have hfK : Fence.wide.fn 77 := trivial
  have hfS : Fence.wide.fn 76 := trivial
  refine callsIn_of_wp Tryz.func48 rfl trivial ?_ rfl
  simp only [Tryz.ntmps48, List.size_toArray, List.length_cons, List.length_nil, Nat.reduceAdd, Nat.reduceSub, Array.replicate_succ, Array.replicate_zero, List.push_toArray, List.append_toArray, List.nil_append, List.cons_append]
  gi_wp2_with (first
    | (gi_at_call 76; refine cS.mono ?_; rintro e w' ⟨v, ss, rfl, hS, hrow, hnil, hb⟩)
    | (gi_at_call 77; refine (cK _ _).mono ?_; rintro e w' ⟨rfl, rfl⟩))
  go_ret
  have hp : ss.Perm (stopsI C T) := by rw [← keys_stops]; exact hS
  have hms : ss.mergeSort (fun x y => decide (x ≤ y)) = stopsI C T := (mergeSort_of_perm_i hp).trans (stopsI_sorted C T)
  rw [hms, hp.length_eq] at hrow
  refine ⟨v, rfl, ownsRow_base_a hrow (by simp), hnil.trans ⟨fun e => ?_, fun e => ?_⟩, ((Below.refl _ w).alloc (Nat.le_refl _) _).trans (hb.mono (by simp))⟩
  · subst e
    exact hp.nil_eq.symm ▸ rfl
  · rw [e] at hp
    exact hp.eq_nil
end Go.Proofs.YtliacdaddncmaaaGreatDoor

/- Walks: the stops' Put. -/
namespace Go.Proofs.YtliacdaddncmaaaGreatDoor
open Go.RowKit Go.Maps Go.Shelf Go.Lib
set_option linter.unusedSimpArgs false
set_option linter.unusedVariables false
attribute [local go_sem] alloc_drewN setCell_drewN World.cell?_alloc_some frozen_alloc_some

theorem TabsAt.below {W W' : World} {tp mb C : Nat} {T : Nat → Bool} (h : TabsAt W tp mb C T) (hb : Below W.heap.size W W') : TabsAt W' tp mb C T := h.of_blocks (hb.block _ h.lt.1) (hb.block _ h.lt.2)
theorem TabsAt.ne {W : World} {tp mb C : Nat} {T : Nat → Bool} (h : TabsAt W tp mb C T) : tp ≠ mb := fun e => by
  subst e
  obtain ⟨a, ⟨es, clock, b, r⟩, c⟩ := h
  rw [a] at b
  cases b
/-- Is a column none? -/
def outC (C : Nat) (c : Int) : Bool := decide (c < 0) || decide ((C : Int) ≤ c)
theorem put1_pred (C tp mb B : Nat) (T : Nat → Bool) (w : World) (hB : B < w.heap.size) (hbox : w.heap[B]? = some (.cells #[.pointer (some ⟨tp, 0, none⟩)] 91 (0, 0))) (ht : TabsAt w tp mb C T) :
    PredAt Tryz.prog 73 #[.pointer (some ⟨B, 0, none⟩)] (Value.int .i64) (outC C) w := fun W x hb => by
  have hc : W.cell? ⟨B, 0, none⟩ = some (.pointer (some ⟨tp, 0, none⟩)) := cell_row ((hb.block _ hB).trans hbox) 0
  obtain ⟨a, _, _⟩ := ht.below hb
  have hC := cell_row a 0
  have hC' : W.cell? ⟨tp, 0, none⟩ = some (.int .i64 (C : Int)) := hC
  show Calls Tryz.prog 73 #[.int .i64 x, .pointer (some ⟨B, 0, none⟩)] W _
  clear a hb hbox ht hC
  unfold outC
  by_cases h1 : x < 0
  · go_enter Tryz.func73, Tryz.ntmps73
    go_wp2
    all_goals (go_ret; exact ⟨by simp_all, 0, rfl⟩)
  · go_enter Tryz.func73, Tryz.ntmps73
    go_wp2
    all_goals (go_ret; exact ⟨by simp_all <;> omega, 0, rfl⟩)
set_option maxRecDepth 100000 in
set_option maxHeartbeats 4000000 in
theorem tput_in (tp mb C c cap sb : Nat) (T : Nat → Bool) (on : Bool) (w : World) (h : TabsAt w tp mb C T) (hC : C ≤ 255) (hc : c < C) (hs : w.cell? ⟨sb, 0, none⟩ = some (.int .i64 (c : Int))) (hsb : sb ≠ mb) (hsl : sb < w.heap.size) :
    Calls Tryz.prog 43 #[.pointer (some ⟨tp, 0, none⟩), .bool on, .slice (some ⟨sb, 0, none⟩) 1 cap] w fun e w' => e = .returned (.int .i64 0) ∧ TabsTo w w' tp mb C (setT T c on) := by
  have HB0 : Hid (Below w.heap.size w (w.alloc (.cells #[.pointer (some ⟨tp, 0, none⟩)] 91))) := below1 _ _
  have hbox := heap_alloc_new w (.cells #[.pointer (some ⟨tp, 0, none⟩)] 91)
  have HT := Lib.hid (h.below HB0.out)
  have HP := Lib.hid (AnyE.slices_ContainsFunc Tryz.anyA (Value.int .i64) (outC C) 73 #[.pointer (some ⟨w.heap.size, 0, none⟩)] (enters_of Tryz.func73 (by kernel_rfl) rfl) sb 0 1 cap [(c : Int)] (w.alloc (.cells #[.pointer (some ⟨tp, 0, none⟩)] 91)) (put1_pred C tp mb w.heap.size T _ (by simp) hbox HT.out) (by simp) (by omega) (fun j hj => (by
      have hj0 : j = 0 := by simpa using hj
      subst hj0
      exact (HB0.out.cell (p := ⟨sb, 0, none⟩) hsl).trans hs)))
  have hout : ([(c : Int)].take 1).any (outC C) = false := by
    simp [outC]
    omega
  have HCON : Hid (Calls Tryz.prog 72 #[.slice (some ⟨sb, 0, none⟩) 1 cap, .func (.func 73) #[] #[.pointer (some ⟨w.heap.size, 0, none⟩)]] (w.alloc (.cells #[.pointer (some ⟨tp, 0, none⟩)] 91)) fun e w' => e = .returned (.bool false) ∧ ∃ q, w' = (w.alloc (.cells #[.pointer (some ⟨tp, 0, none⟩)] 91)).drewN q) := by
    have := HP.out
    rw [hout] at this
    exact this
  have hmf : ∀ (fn : Fn) (first cap : Array Value) (w : World), (Instr.makeFunc fn first cap).run Tryz.prog w = .ok (.func fn first cap) w := fun _ _ _ _ => rfl
  have hb0 := (cell_row hbox 0 : (w.alloc (.cells #[.pointer (some ⟨tp, 0, none⟩)] 91)).cell? ⟨w.heap.size, 0, none⟩ = _)
  have hcs : (w.alloc (.cells #[.pointer (some ⟨tp, 0, none⟩)] 91)).cell? ⟨sb, 0, none⟩ = some (.int .i64 (c : Int)) := (HB0.out.cell (p := ⟨sb, 0, none⟩) hsl).trans hs
  have HNE := Lib.hid h.ne
  have HLT := Lib.hid h.lt
  have HT2 := Lib.hid h.2.2
  clear HP hout h hs hbox
  have hb0' : (w.alloc (.cells #[.pointer (some ⟨tp, 0, none⟩)] 91)).cell? ⟨w.heap.size, 0, none⟩ = some (.pointer (some ⟨tp, 0, none⟩)) := hb0
  clear hb0
  go_enter Tryz.func43, Tryz.ntmps43
  go_wp2_with (go_at_call 72; refine HCON.out.mono ?_; rintro e w1 ⟨rfl, q, hw1⟩; have HW1 := Lib.hid hw1; clear hw1)
  have hbe : Below w.heap.size w w1 := by rw [HW1.out]; exact Below.later HB0.out (below_drewN' q) HB0.out.size
  have hbe0 : Below (w.heap.size + 1) (w.alloc (.cells #[.pointer (some ⟨tp, 0, none⟩)] 91)) w1 := by rw [HW1.out]; exact below_drewN' q
  have htw : TabsAt w1 tp mb C T := HT.out.below (hbe0.mono (by simp))
  have hcs1 : w1.cell? ⟨sb, 0, none⟩ = some (.int .i64 (c : Int)) := by rw [HW1.out]; exact hcs
  have hb1 : w1.cell? ⟨w.heap.size, 0, none⟩ = some (.pointer (some ⟨tp, 0, none⟩)) := by rw [HW1.out]; exact hb0'
  have hm1 : w1.cell? ⟨tp, 1, none⟩ = some (.map (some mb)) := cell_row htw.1 1
  have hown := htw.2.1
  have HTW := Lib.hid htw
  have HBE := Lib.hid hbe
  clear hcs hb0' hbe hbe0 htw
  have hkey : keyOf Tryz.prog 3 (.int .i64 (c : Int)) = some (.int .i64 (c : Int)) := keyOf_int_mk Tryz.underlying3 (WalkArith.wf_i64 (by omega))
  have HFIN : Hid (∀ w2 D2 m, w2.ownsMap Tryz.prog 3 unitElem mb m D2 → D2 = stopsD C (setT T c on) → w1.mapTurned w2 mb → TabsTo w w2 tp mb C (setT T c on)) := fun w2 D2 m ho hD ht => by
    subst hD
    refine ⟨⟨(turned_other ht HNE.out).trans HTW.out.1, owns_shrink ho (stops_size _ _), fun k hk => ?_⟩, (Keeps.of_below HBE.out).trans (turned_keeps ht (.inr rfl)) (fun k hk => .inl hk)⟩
    unfold setT at hk
    split at hk
    · rename_i e; rw [e]; exact hc
    · exact HT2.out k hk
  refine wp_loop_rounds 2 ?_
  rw [rounds_succ]
  cases on
  · go_wp2_with (at_delete; refine wpList_delete_own _ rfl _ _ 128 3 rfl 132 keyed_int Tryz.underlying128 _ mb C _ rfl hown _ _ rfl hkey ?_; intro w2 hown2 hturn2)
    have HEND := Lib.hid (HFIN.out w2 _ _ hown2 (stops_del (hown2.canon keyed_int)) hturn2)
    clear hown2 hturn2 hown
    rw [rounds_succ]
    go_wp2_with fail
    go_ret
    exact ⟨rfl, HEND.out⟩
  · go_wp2_with (at_mapUpdate; refine wpList_mapUpdate_in _ rfl _ _ _ 128 rfl 3 132 keyed_int Tryz.underlying128 _ mb C _ rfl hown (by unfold maxLen; omega) _ _ _ rfl rfl hkey _ [] unitElem_mk ?_; intro w2 hown2 hturn2)
    have HEND := Lib.hid (HFIN.out w2 _ _ hown2 (stops_put hc (hown2.canon keyed_int)) hturn2)
    clear hown2 hturn2 hown
    rw [rounds_succ]
    go_wp2_with fail
    go_ret
    exact ⟨rfl, HEND.out⟩
set_option maxRecDepth 100000 in
set_option maxHeartbeats 4000000 in
theorem tput_out (tp mb C cap sb : Nat) (c : Int) (T : Nat → Bool) (on : Bool) (w : World) (h : TabsAt w tp mb C T) (hc : c < 0 ∨ (C : Int) ≤ c) (hs : w.cell? ⟨sb, 0, none⟩ = some (.int .i64 c)) (hsl : sb < w.heap.size) :
    Calls Tryz.prog 43 #[.pointer (some ⟨tp, 0, none⟩), .bool on, .slice (some ⟨sb, 0, none⟩) 1 cap] w fun e w' => e = .returned (.int .i64 11) ∧ Below w.heap.size w w' := by
  have HB0 : Hid (Below w.heap.size w (w.alloc (.cells #[.pointer (some ⟨tp, 0, none⟩)] 91))) := below1 _ _
  have hbox := heap_alloc_new w (.cells #[.pointer (some ⟨tp, 0, none⟩)] 91)
  have HT := Lib.hid (h.below HB0.out)
  have HP := Lib.hid (AnyE.slices_ContainsFunc Tryz.anyA (Value.int .i64) (outC C) 73 #[.pointer (some ⟨w.heap.size, 0, none⟩)] (enters_of Tryz.func73 (by kernel_rfl) rfl) sb 0 1 cap [c] (w.alloc (.cells #[.pointer (some ⟨tp, 0, none⟩)] 91)) (put1_pred C tp mb w.heap.size T _ (by simp) hbox HT.out) (by simp) (by omega) (fun j hj => (by
      have hj0 : j = 0 := by simpa using hj
      subst hj0
      exact (HB0.out.cell (p := ⟨sb, 0, none⟩) hsl).trans hs)))
  have hout : ([c].take 1).any (outC C) = true := by
    simp [outC]
    omega
  have HCON : Hid (Calls Tryz.prog 72 #[.slice (some ⟨sb, 0, none⟩) 1 cap, .func (.func 73) #[] #[.pointer (some ⟨w.heap.size, 0, none⟩)]] (w.alloc (.cells #[.pointer (some ⟨tp, 0, none⟩)] 91)) fun e w' => e = .returned (.bool true) ∧ ∃ q, w' = (w.alloc (.cells #[.pointer (some ⟨tp, 0, none⟩)] 91)).drewN q) := by
    have := HP.out
    rw [hout] at this
    exact this
  have hmf : ∀ (fn : Fn) (first cap : Array Value) (w : World), (Instr.makeFunc fn first cap).run Tryz.prog w = .ok (.func fn first cap) w := fun _ _ _ _ => rfl
  have hb0 : (w.alloc (.cells #[.pointer (some ⟨tp, 0, none⟩)] 91)).cell? ⟨w.heap.size, 0, none⟩ = some (.pointer (some ⟨tp, 0, none⟩)) := cell_row hbox 0
  clear HP hout h hs hbox
  go_enter Tryz.func43, Tryz.ntmps43
  go_wp2_with (go_at_call 72; refine HCON.out.mono ?_; rintro e w1 ⟨rfl, q, hw1⟩; have HW1 := Lib.hid hw1; clear hw1)
  go_ret
  exact ⟨rfl, by rw [HW1.out]; exact Below.later HB0.out (below_drewN' q) HB0.out.size⟩
end Go.Proofs.YtliacdaddncmaaaGreatDoor

/- Walks: maps.DeleteFunc on a set of stops; the stops' Resize. -/
namespace Go.Proofs.YtliacdaddncmaaaGreatDoor
open Go.RowKit Go.Maps Go.Lib
set_option linter.unusedSimpArgs false
set_option linter.unusedVariables false
attribute [local go_sem] alloc_drewN setCell_drewN World.cell?_alloc_some frozen_alloc_some

/-- The stops that have room. -/
def cutT (z : Nat) (T : Nat → Bool) : Nat → Bool := fun c => T c && decide (c < z)
def goneP (z : Nat) (k : Lit) (_ : DataW Unit) : Bool := match k with
  | .int _ a => decide ((z : Int) ≤ a)
  | _ => false
theorem stops_cut {C z : Nat} {T : Nat → Bool} (hT : ∀ c, T c = true → c < C) (hc : Canon (deleteFuncD (goneP z) (stopsD C T))) : deleteFuncD (goneP z) (stopsD C T) = stopsD z (cutT z T) := by
  have hes : deleteFuncD (goneP z) (stopsD C T) = .map (((Vz.stopsL C T).map fun c : Nat => ((.int .i64 (c : Int) : Lit), (.agg [] : DataW Unit))).filter fun p => !goneP z p.1 p.2) := rfl
  have hmem : ∀ p, p ∈ (((Vz.stopsL C T).map fun c : Nat => ((.int .i64 (c : Int) : Lit), (.agg [] : DataW Unit))).filter fun p => !goneP z p.1 p.2) ↔ ∃ c : Nat, c < z ∧ T c = true ∧ p = ((.int .i64 (c : Int) : Lit), (.agg [] : DataW Unit)) := fun p => by
    rw [List.mem_filter, List.mem_map]
    constructor
    · rintro ⟨⟨c, hc, rfl⟩, hp⟩
      have h2 := (List.mem_filter.1 hc).2
      refine ⟨c, ?_, h2, rfl⟩
      unfold goneP at hp
      simp at hp
      omega
    · rintro ⟨c, h1, h2, rfl⟩
      refine ⟨⟨c, List.mem_filter.2 ⟨List.mem_range.2 (hT c h2), h2⟩, rfl⟩, ?_⟩
      unfold goneP
      simp
      omega
  refine stops_ext hc (fun k => ?_) (fun k y hk => ?_)
  · rw [hes, has_eq, List.any_eq_true]
    constructor
    · rintro ⟨p, hp, hs⟩
      obtain ⟨c, h1, h2, rfl⟩ := (hmem p).1 hp
      exact ⟨c, h1, by unfold cutT; rw [h2]; exact decide_eq_true h1, (WideAt.sameKey_eq hs).symm⟩
    · rintro ⟨c, h1, h2, rfl⟩
      unfold cutT at h2
      rw [Bool.and_eq_true] at h2
      exact ⟨_, (hmem _).2 ⟨c, h1, h2.1, rfl⟩, WideAt.sameKey_self trivial⟩
  · rw [hes] at hk ⊢
    obtain ⟨es, he, hp, _⟩ := hc
    rw [has_eq, List.any_eq_true] at hk
    obtain ⟨p, hpm, hs⟩ := hk
    obtain ⟨c, h1, h2, rfl⟩ := (hmem p).1 hpm
    rw [hes] at he
    injection he with he
    have hke := WideAt.sameKey_eq hs
    subst hke
    rw [he] at hpm ⊢
    exact WideAt.atKey_mem y trivial (apart_of_rising hp) hpm
set_option maxRecDepth 100000 in
set_option maxHeartbeats 4000000 in
theorem gone_any (z : Nat) (a : Int) (b : Nat) (W : World) (hb : W.cell? ⟨b, 0, none⟩ = some (.int .i64 z)) : Calls Tryz.prog 91 #[.int .i64 a, .agg #[], .pointer (some ⟨b, 0, none⟩)] W fun e w' => e = .returned (.bool (decide ((z : Int) ≤ a))) ∧ W.grownBy w' none := by
  by_cases h : (z : Int) ≤ a
  · go_enter Tryz.func91, Tryz.ntmps91
    go_wp2_with fail
    go_ret
    exact ⟨by simp [h], grown_of_below (below1 _ _)⟩
  · have h' : a < (z : Int) := by omega
    go_enter Tryz.func91, Tryz.ntmps91
    go_wp2_with fail
    go_ret
    exact ⟨by simp [h'], grown_of_below (below1 _ _)⟩
set_option maxRecDepth 100000 in
set_option maxHeartbeats 4000000 in
theorem delf_ok (mb n z b : Nat) (D : DataW Unit) (w : World) (hown : w.ownsMap Tryz.prog 3 unitElem mb n D) (hb : w.cell? ⟨b, 0, none⟩ = some (.int .i64 z)) (hbl : b < w.heap.size) (hbm : b ≠ mb) :
    Calls Tryz.prog 90 #[.map (some mb), .func (.func 91) #[] #[.pointer (some ⟨b, 0, none⟩)]] w fun e w' => e = .returned (.tuple #[]) ∧ w'.ownsMap Tryz.prog 3 unitElem mb n (deleteFuncD (goneP z) D) ∧ w.grownBy w' (some mb) := by
  obtain ⟨es0, rfl, hap, hkeys⟩ := hown.entries keyed_int
  have heg := (enters_of Tryz.func91 (by kernel_rfl) rfl : ∀ args w, (callFunc 91 args).run Tryz.prog w = .ok (.enter 91 args) w)
  go_enter Tryz.func90, Tryz.ntmps90
  go_wp2_with (first
    | (at_range; refine wpList_range_own _ rfl _ 128 rfl 3 132 keyed_int Tryz.underlying128 unitElem mb n _ rfl hown ?_; intro w0 hrg0 hg0 hs0)
    | go_in)
  go_frame
  go_loopw [8] (fun _ wr => ∃ (left : Lit → Bool) (cnt : Nat), wr.ranges Tryz.prog 3 unitElem mb w.heap.size n (Fk (goneP z) es0 left) left cnt ∧ w.grownBy wr (some mb))
    (fun _ wr => wr.rangeLeft mb w.heap.size)
  case atStart => exact ⟨_, _, by rw [Fk_start hkeys]; exact hrg0, hg0.but _⟩
  case round =>
    obtain ⟨left, cnt, hrg, hgw⟩ := hrel
    go_wp2_with (first
      | (at_next; refine wpList_next_ranges _ rfl _ rfl 3 keyed_int unitElem (Value.int .i64) (fun _ : Unit => Value.agg #[]) (fun key kl hk => by obtain ⟨x, rfl, _⟩ := Maps.keyOf_int_inv Tryz.underlying3 hk; exact ⟨x, rfl⟩) (fun v y h => ⟨(), (unitElem_inv h).1⟩) mb w.heap.size n _ _ _ rfl hrg ?_ ?_)
      | go_in)
    · intro _ hl0
      go_wp2
      go_end0
      exact ⟨rfl, by rw [← Fk_end hl0]; exact hrg.owns, hgw⟩
    · intro x _ kl y w1 cnt1 hkey hlx hv hat hrg1 hlt hg1 hs1 hen
      obtain ⟨x', hx', rfl, hwf⟩ := Maps.keyOf_int_inv Tryz.underlying3 hkey
      injection hx' with _ hx'
      subst hx'
      have hgw1 := hgw.andThen hg1 (fun j hj => by cases hj; exact Or.inl (Nat.le_refl _))
      have hcb : w1.cell? ⟨b, 0, none⟩ = some (.int .i64 z) := by
        have e : w1.heap[b]? = w.heap[b]? := hgw1.block b hbl (fun e => hbm (by injection e))
        unfold World.cell? at hb ⊢
        rw [e]
        exact hb
      have hcb2 : (w1.alloc (.cells #[] 132)).cell? ⟨b, 0, none⟩ = some (.int .i64 z) := Lib.cell?_alloc_some _ hcb
      have HG := Lib.hid (gone_any z x b _ hcb2)
      have hga : w1.grownBy (w1.alloc (.cells #[] 132)) none := World.grownBy_alloc _ _ _
      have hrl := hrg1.lt
      have hsp : goneP z (.int .i64 x) kl = decide ((z : Int) ≤ x) := rfl
      clear hcb hcb2
      by_cases hle : (z : Int) ≤ x
      · have hd : decide ((z : Int) ≤ x) = true := decide_eq_true hle
        rw [hd] at HG hsp
        go_wp2_with (first
          | (at_delete; refine wpList_delete_ranges _ rfl _ _ 128 3 rfl 132 keyed_int Tryz.underlying128 unitElem mb w.heap.size n _ _ _ rfl hrg2 _ _ rfl hkey ?_; intro w3 cnt3 hrg3 hle3 hturn; go_frame)
          | (go_at_call 91; refine HG.out.mono ?_; rintro e w2 ⟨rfl, hg2'⟩; have hg2 := hga.trans hg2'; have hrg2 := hrg1.kept hg2 (by simp) (by simp))
          | go_in)
        rw [strike_twice] at hrg3
        go_roundw
        case rel => exact ⟨_, cnt3, by rw [← Fk_struck hap (show WideAt.IsKeyLit (.int .i64 x) from trivial) hlx hsp hat]; exact hrg3, (hgw1.andThen hg2 (fun j hj => by cases hj)).andThen hturn.grown (fun j hj => by cases hj; exact Or.inr rfl)⟩
        case measure => rw [hrg3.left_eq, hrg.left_eq]; omega
      · have hd : decide ((z : Int) ≤ x) = false := decide_eq_false hle
        rw [hd] at HG hsp
        go_wp2_with (first
          | (go_at_call 91; refine HG.out.mono ?_; rintro e w2 ⟨rfl, hg2'⟩; have hg2 := hga.trans hg2')
          | go_in)
        have hrg2 := hrg1.kept hg2 (by simp) (by simp)
        go_roundw
        case rel => exact ⟨_, cnt1, by rw [← Fk_stays hap (show WideAt.IsKeyLit (.int .i64 x) from trivial) hlx hsp hat]; exact hrg2, hgw1.andThen hg2 (fun j hj => by cases hj)⟩
        case measure => rw [hrg2.left_eq, hrg.left_eq]; exact hlt
theorem grown_keeps {w w' : World} {mb : Nat} {F : Nat → Prop} (hg : w.grownBy w' (some mb)) (hF : F mb) : Keeps F w w' :=
  ⟨hg.os, hg.tape, hg.output, hg.size, fun k hk hn => hg.block k hk (fun e => by injection e with e; exact hn (e ▸ hF))⟩
set_option maxRecDepth 100000 in
set_option maxHeartbeats 4000000 in
theorem tresize_ok (tp mb C z : Nat) (T : Nat → Bool) (w : World) (h : TabsAt w tp mb C T) (hz : 1 ≤ z ∧ z ≤ 255) :
    Calls Tryz.prog 63 #[.pointer (some ⟨tp, 0, none⟩), .int .i64 z] w fun e w' => e = .returned (.int .i64 0) ∧ TabsTo w w' tp mb z (cutT z T) := by
  have hne := h.ne
  have hlt := h.lt
  obtain ⟨t0, t1, tf0, tf1⟩ := row2 h.1
  have hsw : (w.setCell ⟨tp, 0, none⟩ (.int .i64 z)).heap.size = w.heap.size := World.size_setCell ..
  have htW : (w.setCell ⟨tp, 0, none⟩ (.int .i64 z)).heap[tp]? = some (.cells #[.int .i64 z, .map (some mb)] 130 (0, 0)) := heap_set_same h.1 0 (.int .i64 z)
  have t1w : ((w.setCell ⟨tp, 0, none⟩ (.int .i64 z)).alloc (.cells #[.int .i64 z] 3)).cell? ⟨tp, 1, none⟩ = some (.map (some mb)) := cell_row ((Below.heap_alloc _ _ _ (by rw [hsw]; exact hlt.1)).trans htW) 1
  have hmf : ∀ (fn : Fn) (first cap : Array Value) (w : World), (Instr.makeFunc fn first cap).run Tryz.prog w = .ok (.func fn first cap) w := fun _ _ _ _ => rfl
  have hz1 : ¬ (z : Int) < 1 := by omega
  have hz2 : ¬ 255 < (z : Int) := by omega
  have hz3 : (1 : Int) ≤ z := by omega
  have hz4 : (z : Int) ≤ 255 := by omega
  have hownW : ((w.setCell ⟨tp, 0, none⟩ (.int .i64 z)).alloc (.cells #[.int .i64 z] 3)).ownsMap Tryz.prog 3 unitElem mb C (stopsD C T) := by
    obtain ⟨es, clock, hb, r⟩ := h.2.1.setCell (a := ⟨tp, 0, none⟩) (by show mb ≠ tp; exact hne.symm) (.int .i64 z)
    exact ⟨es, clock, (Below.heap_alloc _ _ _ (by rw [hsw]; exact hlt.2)).trans hb, r⟩
  have HD := Lib.hid (delf_ok mb C z w.heap.size (stopsD C T) _ hownW (by have := heap_alloc_new (w.setCell ⟨tp, 0, none⟩ (.int .i64 z)) (.cells #[.int .i64 z] 3); rw [hsw] at this; exact cell_row this 0) (by simp) (by omega))
  have HN := Lib.hid h
  have HT1 := Lib.hid htW
  have HSW := Lib.hid hsw
  clear h hownW htW hsw
  go_enter Tryz.func63, Tryz.ntmps63
  go_wp2_with (go_at_call 90; refine HD.out.mono ?_; rintro e w2 ⟨rfl, hown2, hg2⟩)
  go_ret
  refine ⟨rfl, ⟨?_, ?_, ?_⟩, ?_⟩
  · exact (hg2.block tp (by simp; omega) (fun e => hne (by injection e))).trans ((Below.heap_alloc _ _ _ (by rw [HSW.out]; exact hlt.1)).trans HT1.out)
  · rw [← stops_cut HN.out.2.2 (hown2.canon keyed_int)]
    refine owns_shrink hown2 ?_
    rw [stops_cut HN.out.2.2 (hown2.canon keyed_int)]
    exact stops_size _ _
  · intro c hc
    unfold cutT at hc
    rw [Bool.and_eq_true] at hc
    exact of_decide_eq_true hc.2
  · have h1 : Keeps (fun k => k = tp ∨ k = mb) w (w.setCell ⟨tp, 0, none⟩ (.int .i64 z)) := (Keeps.refl _ w).setCell' (p := ⟨tp, 0, none⟩) (.inl rfl) _
    exact (h1.trans (Keeps.of_below (below1 _ _) : Keeps (fun k => k = tp ∨ k = mb) _ _) (fun k hk => .inl hk)).trans (grown_keeps hg2 (.inr rfl)) (fun k hk => .inl hk)
end Go.Proofs.YtliacdaddncmaaaGreatDoor

/- Walks: the screen's Stop, Stops, Tab, Listed. -/
namespace Go.Proofs.YtliacdaddncmaaaGreatDoor
open Go.RowKit
set_option linter.unusedSimpArgs false
set_option linter.unusedVariables false
attribute [local go_sem] alloc_drewN setCell_drewN World.cell?_alloc_some frozen_alloc_some size_f0 size_f1

/-- The stops are other ones: the screen. -/
theorem ScrAt.tabsTo {w w' : World} {sp gp tp mb : Nat} {FG : Nat → Prop} {S : Vz.Sr} {T' : Nat → Bool} (h : ScrAt w sp gp tp mb FG S) (ht : TabsTo w w' tp mb S.D.C T') : ScrAt w' sp gp tp mb FG { S with T := T' } := by
  obtain ⟨h1, hK⟩ := ht
  have hno : ∀ k, k < w.heap.size → k ≠ tp → k ≠ mb → w'.heap[k]? = w.heap[k]? := fun k hk h1 h2 => hK.block k hk (fun e => e.elim h1 h2)
  have hb := h.blk
  exact ⟨(hno sp (h.lt (.inl rfl)) h.spt h.spm).trans h.box, h.grid.of_blocks fun k hk => hno k (h.grid.lt k hk) (fun e => h.ntp (e ▸ hk)) (fun e => h.nmb (e ▸ hk)), h1, h.here, h.nsp, h.ntp, h.nmb, h.spt, h.spm, h.tpm, h.blk.of_block (hno _ h.blk.lt (fun e => h.nbl tp (.inr (.inl rfl)) e.symm) (fun e => h.nbl mb (.inr (.inr (.inl rfl))) e.symm)), h.nbl⟩
theorem Scr.tabsTo {w w0 w' : World} {sp gp tp mb : Nat} {FG F : Nat → Prop} {S : Vz.Sr} {T' : Nat → Bool} (h : ScrAt w sp gp tp mb FG S) (hF : ∀ k, F k ↔ footS sp tp mb FG k) (hb : Below w.heap.size w w0) (ht : TabsTo w0 w' tp mb S.D.C T') : ScrTo w w' sp F { S with T := T' } := by
  have h0 := h.below hb
  refine ⟨⟨F, ⟨gp, tp, mb, FG, h0.tabsTo ht, hF⟩, fun k hk => .inl hk⟩, ?_⟩
  refine (Keeps.of_below hb).trans (Keeps.mono ht.2 ?_) (fun k hk => .inl hk)
  rintro k (rfl | rfl)
  · exact (hF _).2 (.inr (.inl rfl))
  · exact (hF _).2 (.inr (.inr (.inl rfl)))
/-- A stop more, or less, if the column is there. -/
def stopS (S : Vz.Sr) (c : Int) (on : Bool) : Vz.Sr := if 0 ≤ c ∧ c < S.D.C then { S with T := setT S.T c.toNat on } else S
set_option maxRecDepth 100000 in
set_option maxHeartbeats 4000000 in
theorem scr_stop (sp : Nat) (F : Nat → Prop) (S : Vz.Sr) (c : Int) (on : Bool) (w : World) (h : Scr w sp F S) : Calls Tryz.prog 17 #[.pointer (some ⟨sp, 0, none⟩), .int .i64 c, .bool on] w fun e w' => e = .returned (.tuple #[]) ∧ ScrTo w w' sp F (stopS S c on) := by
  have hS := h
  obtain ⟨gp, tp, mb, FG, hA, hF, HC, hlt⟩ := h.held
  obtain ⟨m1, m2, m3, m4⟩ := hA.grid.may
  have hnb := below1 w (.cells #[.int .i64 c] 3)
  have hcs : (w.alloc (.cells #[.int .i64 c] 3)).cell? ⟨w.heap.size, 0, none⟩ = some (.int .i64 c) := cell_row (heap_alloc_new w _) 0
  have htb := hA.tabs.below hnb
  obtain ⟨c0, c1, c2, c3, c4, _⟩ := HC.out _ (Below.refl _ _)
  by_cases hc : 0 ≤ c ∧ c < S.D.C
  · obtain ⟨k, rfl⟩ := Int.eq_ofNat_of_zero_le hc.1
    have hk : k < S.D.C := by omega
    have HP := Lib.hid (tput_in tp mb S.D.C k 1 w.heap.size S.T on _ htb m4 hk hcs (by have := hA.tabs.lt.2; omega) (by simp))
    have HE : Hid (∀ w', TabsTo (w.alloc (.cells #[.int .i64 (k : Int)] 3)) w' tp mb S.D.C (setT S.T k on) → ScrTo w w' sp F (stopS S k on)) := fun w' ht => by
      unfold stopS
      rw [if_pos hc]
      exact Scr.tabsTo hA hF hnb ht
    clear hA hF h hS htb hcs hc
    go_enter Tryz.func17, Tryz.ntmps17
    go_wp2_with (go_at_call 43; refine HP.out.mono ?_; rintro e w2 ⟨rfl, ht⟩; have HT := Lib.hid ht; clear ht)
    go_end0
    exact ⟨rfl, HE.out _ HT.out⟩
  · have HP := Lib.hid (tput_out tp mb S.D.C 1 w.heap.size c S.T on _ htb (by omega) hcs (by simp))
    have HE : Hid (∀ w', Below (w.alloc (.cells #[.int .i64 c] 3)).heap.size (w.alloc (.cells #[.int .i64 c] 3)) w' → ScrTo w w' sp F (stopS S c on)) := fun w' ht => by
      unfold stopS
      rw [if_neg hc]
      exact (ScrTo.refl hS).later (Below.later hnb ht hnb.size)
    clear hA hF h hS htb hcs hc
    go_enter Tryz.func17, Tryz.ntmps17
    go_wp2_with (go_at_call 43; refine HP.out.mono ?_; rintro e w2 ⟨rfl, ht⟩; have HT := Lib.hid ht; clear ht)
    go_end0
    exact ⟨rfl, HE.out _ HT.out⟩
set_option maxRecDepth 100000 in
set_option maxHeartbeats 4000000 in
theorem scr_listed (sp : Nat) (F : Nat → Prop) (S : Vz.Sr) (w : World) (h : Scr w sp F S) : Calls Tryz.prog 23 #[.pointer (some ⟨sp, 0, none⟩)] w fun e w' => ∃ v : Value, e = .returned v ∧
      w'.ownsRow w.heap.size 3 1 v (stopsI S.D.C S.T).length ((stopsI S.D.C S.T).map (Value.int .i64)) ∧ (v = .slice none 0 0 ↔ stopsI S.D.C S.T = []) ∧ Below w.heap.size w w' := by
  obtain ⟨gp, tp, mb, FG, hA, hF, HC, hlt⟩ := h.held
  obtain ⟨m1, m2, m3, m4⟩ := hA.grid.may
  obtain ⟨c0, c1, c2, c3, c4, _⟩ := HC.out _ (Below.refl _ _)
  have HL := Lib.hid (tlist_ok tp mb S.D.C S.T w hA.tabs m4)
  clear hA hF h
  go_enter Tryz.func23, Tryz.ntmps23
  go_wp2_with (go_at_call 48; refine HL.out.mono ?_; rintro e w2 ⟨v, rfl, hr⟩; have HR := Lib.hid hr; clear hr)
  go_ret
  exact ⟨v, rfl, HR.out⟩
end Go.Proofs.YtliacdaddncmaaaGreatDoor
