import Derived.Test.YtncgigapgklhcaaGreatDoorHF
import Derived.Test.YtncgigapgklhcaaGreatDoorShelfG
import Derived.Shelf.SlIterI.Nil
import Derived.Shelf.SortM.Plain
import Derived.Shelf.SortM.SortNone
import Derived.Test.YtncgigapgklhcaaGreatDoorHA
import Derived.LoopN
import Derived.Test.YtncgigapgklhcaaGreatDoorHO
import Derived.Test.YtncgigapgklhcaaGreatDoorHH
import Derived.Shelf.SlicesE.IndexFunc
import Derived.Maps.OwnSet
import Derived.MapKept
import Derived.Test.YtncgigapgklhcaaGreatDoorHG

set_option maxRecDepth 100000
set_option maxHeartbeats 16000000
namespace Go.Proofs.YtncgigapgklhcaaGreatDoor
open Go.RowKit
set_option linter.unusedSimpArgs false
set_option linter.unusedVariables false
/- Walks: the stops' List, by the library's contracts. -/
section
open Go.RowKit Go.Maps Go.Sort Go.Shelf
theorem sortsA (m : Nat) : AnyZI.SortsIn Tryz.prog Tryz.sortedA_ren Fence.wide m :=
 ⟨fun blk off cap ss W hH hblk hsz => callsIn_wide.2 (AnyM.slices_Sort_int Tryz.sortA blk off cap ss W hH hblk hsz),
  fun p cap W => callsIn_wide.2 (AnyM.slices_Sort_int_none Tryz.sortA p cap W)⟩
def stopsI (C : Nat) (T : Nat → Bool) : List Int := (Vz.stopsL C T).map fun c : Nat => (c : Int)
theorem keys_stops (C : Nat) (T : Nat → Bool) : intKeys (stopsD C T) = stopsI C T := by
 unfold stopsD intKeys stopsI
 show List.map (fun p : Lit × DataW Unit => Go.intOf p.1) (List.map _ _) = _
 rw [List.map_map]
 rfl
theorem stopsI_sorted (C : Nat) (T : Nat → Bool) : (stopsI C T).mergeSort (fun x y => decide (x ≤ y)) = stopsI C T := by
 refine List.mergeSort_of_pairwise ?_
 unfold stopsI
 rw [List.pairwise_map]
 refine (List.Pairwise.filter _ List.pairwise_lt_range).imp ?_
 intro a b hab
 exact decide_eq_true (by omega)
theorem tlist_ok (tp mb C : Nat) (T : Nat → Bool) (w : World) (h : TabsAt w tp mb C T) (hC : C ≤ 255) :
 Calls Tryz.prog 64 #[.pointer (some ⟨tp, 0, none⟩)] w fun e w' => ∃ v : Value, e = .returned v ∧
  w'.ownsRow w.heap.size 3 1 v (stopsI C T).length ((stopsI C T).map (Value.int .i64)) ∧ (v = .slice none 0 0 ↔ stopsI C T = []) ∧ Below w.heap.size w w' := by
 refine (callsIn_wide (n := 6)).1 ?_
 have hown := h.2.1
 have hm1 : w.cell? ⟨tp, 1, none⟩ = some (.map (some mb)) := cell_row h.1 1
 have hbl := hown.lt
 have hsz := stops_size C T
 have hmax : Maps.size (stopsD C T) ≤ maxLen := by unfold maxLen; omega
 have hbytes : Maps.size (stopsD C T) * 8 ≤ 140737488355328 := by omega
 have hseq : SeqGives Fence.wide 2 Tryz.prog 117 #[.pointer (some ⟨w.heap.size, 0, none⟩)] encZ (fun ss => ss.Perm (intKeys (stopsD C T))) (Maps.size (stopsD C T)) (w.alloc (.cells #[.map (some mb)] 116)) :=
  AnyZI.keys_gives (ρ := Tryz.keysA_ren) { Tryz.keysA with } Fence.wide _ trivial rfl (by omega) w.heap.size mb C (stopsD C T) _ (by simp) (by simp) (by
   obtain ⟨es, clock, hb, Ft, hs, hD⟩ := hown
   exact ⟨es, clock, (Below.heap_alloc _ _ mb hbl).trans hb, Ft, hs, hD⟩)
 have cK : ∀ mb' W, CallsIn Fence.wide 5 Tryz.prog 95 #[.map mb'] W fun e w' => e = .returned (.func (.func 117) #[] #[.pointer (some ⟨W.heap.size, 0, none⟩)]) ∧ w' = W.alloc (.cells #[.map mb'] 116) := fun mb' W => AnyZI.keys_in Tryz.keysA Fence.wide 5 trivial rfl mb' W
 have cS := AnyZI.sorted_in Tryz.sortedA Fence.wide 5 trivial trivial trivial trivial rfl (by omega) (sortsA _) (enters_of Tryz.func116 (by kernel_rfl) rfl) 117 #[.pointer (some ⟨w.heap.size, 0, none⟩)] trivial (enters_of Tryz.func117 (by kernel_rfl) rfl) _ _ hmax hbytes _ hseq
 change CallsIn _ _ Tryz.prog 94 _ _ _ at cS
 have hfK : Fence.wide.fn 95 := trivial
 have hfS : Fence.wide.fn 94 := trivial
 refine callsIn_of_wp Tryz.func64 rfl trivial ?_ rfl
 simp only [Tryz.ntmps64, List.size_toArray, List.length_cons, List.length_nil, Nat.reduceAdd, Nat.reduceSub, Array.replicate_succ, Array.replicate_zero, List.push_toArray, List.append_toArray, List.nil_append, List.cons_append]
 gi_wp2_with (first
  | (gi_at_call 94; refine cS.mono ?_; rintro e w' ⟨v, ss, rfl, hS, hrow, hnil, hb⟩)
  | (gi_at_call 95; refine (cK _ _).mono ?_; rintro e w' ⟨rfl, rfl⟩))
 go_ret
 have hp : ss.Perm (stopsI C T) := by rw [← keys_stops]; exact hS
 have hms : ss.mergeSort (fun x y => decide (x ≤ y)) = stopsI C T := (mergeSort_of_perm_i hp).trans (stopsI_sorted C T)
 rw [hms, hp.length_eq] at hrow
 refine ⟨v, rfl, ownsRow_base_a hrow (by simp), hnil.trans ⟨fun e => ?_, fun e => ?_⟩, ((Below.refl _ w).alloc (Nat.le_refl _) _).trans (hb.mono (by simp))⟩
 · subst e
   exact hp.nil_eq.symm ▸ rfl
 · rw [e] at hp
   exact hp.eq_nil
end
section
open Go.RowKit Go.Maps
attribute [local go_sem] alloc_drewN setCell_drewN World.cell?_alloc_some frozen_alloc_some
theorem tcols_ok (tp mb C : Nat) (T : Nat → Bool) (w : World) (h : TabsAt w tp mb C T) :
 Calls Tryz.prog 122 #[.pointer (some ⟨tp, 0, none⟩)] w fun e w' => e = .returned (.int .i64 C) ∧ w' = w := by
 have h0 : w.cell? ⟨tp, 0, none⟩ = some (.int .i64 (C : Int)) := cell_row h.1 0
 clear h
 go_enter Tryz.func122, Tryz.ntmps122
 go_wp2_with fail
 go_ret
 exact ⟨rfl, rfl⟩
def Listed (W : World) (v : Value) (L : List Int) : Prop := (v = .slice none 0 0 ∧ L = []) ∨ ∃ g cap, v = .slice (some ⟨g, 0, none⟩) L.length cap ∧ ∀ (k : Nat) (c : Int), L[k]? = some c → W.cell? ⟨g, k, none⟩ = some (.int .i64 c)
theorem listed_of {W : World} {B : Nat} {e : TypeId} {v : Value} {L : List Int} (h : W.ownsRow B e 1 v L.length (L.map (Value.int .i64))) : Listed W v L := by
 obtain ⟨_, ⟨rfl, hn⟩ | ⟨g, cap, cur, rfl, _, hg, _, _, _, ht⟩⟩ := h
 · exact .inl ⟨rfl, List.length_eq_zero_iff.1 hn⟩
 · refine .inr ⟨g, cap, rfl, fun k c hk => ?_⟩
   rw [Nat.mul_one] at ht
   have hkl : k < L.length := (List.getElem?_eq_some_iff.1 hk).1
   have h1 : W.cell? ⟨g, k, none⟩ = cur[k]? := cell_row hg k
   have h2 : (cur.toList.take L.length)[k]? = (L.map (Value.int .i64))[k]? := by rw [ht]
   rw [List.getElem?_take, if_pos hkl, List.getElem?_map, hk] at h2
   rw [h1]
   simpa using h2
theorem find_from {L : List Int} {p : Int → Bool} {k : Nat} (h : ∀ j c, j < k → L[j]? = some c → p c = false) : L.find? p = (L.drop k).find? p := by
 induction k with
 | zero => rfl
 | succ k ih =>
   rw [ih (fun j c hj => h j c (by omega))]
   by_cases hk : k < L.length
   · rw [List.drop_eq_getElem_cons hk, List.find?_cons]
     rw [h k L[k] (Nat.lt_succ_self k) (List.getElem?_eq_getElem hk)]
   · rw [List.drop_eq_nil_of_le (by omega), List.drop_eq_nil_of_le (by omega)]
def nextT (C : Nat) (T : Nat → Bool) (col : Int) : Int := ((stopsI C T).find? (fun c => decide (col < c))).getD ((C : Int) - 1)
theorem stopsI_len (C : Nat) (T : Nat → Bool) : (stopsI C T).length ≤ C := by
 unfold stopsI Vz.stopsL
 rw [List.length_map]
 exact Nat.le_trans (List.length_filter_le _ _) (by simp)
theorem tnext_ok (tp mb C : Nat) (T : Nat → Bool) (col : Int) (w : World) (h : TabsAt w tp mb C T) (hC : 1 ≤ C ∧ C ≤ 255) :
 Calls Tryz.prog 123 #[.pointer (some ⟨tp, 0, none⟩), .int .i64 col] w fun e w' => e = .returned (.int .i64 (nextT C T col)) ∧ Below w.heap.size w w' := by
 have HL := Lib.hid (tlist_ok tp mb C T w h hC.2)
 have HCO := Lib.hid (fun W (hb : Below w.heap.size w W) => tcols_ok tp mb C T W (h.of_blocks (hb.block _ h.lt.1) (hb.block _ h.lt.2)))
 have hlen := stopsI_len C T
 have HN : Hid (nextT C T col = ((stopsI C T).find? (fun c => decide (col < c))).getD ((C : Int) - 1)) := rfl
 rw [HN.out]
 clear h
 generalize stopsI C T = L at *
 go_enter Tryz.func123, Tryz.ntmps123
 go_wp2_with (go_at_call 64; refine HL.out.mono ?_; rintro e w1 ⟨v, rfl, hrow, hnil, hb1⟩; have HB1 := Lib.hid hb1; rcases listed_of hrow with ⟨rfl, rfl⟩ | ⟨g, cap, rfl, hcell⟩; clear hb1 hrow hnil)
 · have hv : IntKind.i64.wrap ((C : Int) - 1) = (C : Int) - 1 := wrap_in (by omega) (by omega)
   have hmx : max ((C : Int) - 1) 0 = (C : Int) - 1 := by omega
   refine wp_loop_rounds 1 ?_
   rw [rounds_succ]
   go_wp2_with (go_at_call 122; refine (HCO.out _ HB1.out).mono ?_; rintro e w2 ⟨rfl, rfl⟩)
   go_ret
   exact ⟨rfl, HB1.out⟩
 · have HCE := Lib.hid hcell
   clear hcell
   go_loopw [10] (fun i wr => ∃ k : Nat, k ≤ L.length ∧ i = .int .i64 (k : Int) ∧ (∀ j c, j < k → L[j]? = some c → decide (col < c) = false) ∧ wr = w1) (fun i _ => L.length - (intOf i).toNat)
   case atStart => exact ⟨0, Nat.zero_le _, rfl, fun j c hj => absurd hj (Nat.not_lt_zero _), rfl⟩
   case round =>
    obtain ⟨k, hk, rfl, hno, rfl⟩ := hrel
    have HNO := Lib.hid hno
    by_cases hlt : k < L.length
    · have hlz : (k : Int) < (L.length : Int) := by omega
      have hkc := HCE.out k L[k] (List.getElem?_eq_getElem hlt)
      have HKC := Lib.hid (List.getElem?_eq_getElem hlt)
      have hwk : IntKind.i64.wrap ((k : Int) + 1) = ((k + 1 : Nat) : Int) := by rw [wrap_in (by omega) (by omega)]; rfl
      have hno2 := find_from HNO.out
      rw [List.drop_eq_getElem_cons hlt, List.find?_cons] at hno2
      generalize L[k] = c at *
      clear hno
      by_cases hc : col < c
      · have HF := Lib.hid (show L.find? (fun c => decide (col < c)) = some c by rw [hno2]; simp [hc])
        clear hno2
        go_wp2_with fail
        go_ret
        exact ⟨by rw [HF.out]; rfl, HB1.out⟩
      · have hc' : c ≤ col := by omega
        have HNS : Hid (∀ j c', j < k + 1 → L[j]? = some c' → decide (col < c') = false) := fun j c' hj hl => by
         by_cases e : j = k
         · subst e
           rw [HKC.out] at hl
           injection hl with hl
           rw [← hl]
           exact decide_eq_false hc
         · exact HNO.out j c' (by omega) hl
        clear hno2
        go_wp2_with fail
        exact ⟨⟨k + 1, by omega, rfl, HNS.out, trivial⟩, by simp [intOf]; omega⟩
    · have hge : (L.length : Int) ≤ (k : Int) := by omega
      have HF : Hid (L.find? (fun c => decide (col < c)) = none) := by
       rw [find_from hno, List.drop_eq_nil_of_le (by omega)]
       rfl
      have hv : IntKind.i64.wrap ((C : Int) - 1) = (C : Int) - 1 := wrap_in (by omega) (by omega)
      have hmx : max ((C : Int) - 1) 0 = (C : Int) - 1 := by omega
      clear hno
      go_wp2_with (go_at_call 122; refine (HCO.out _ HB1.out).mono ?_; rintro e w2 ⟨rfl, rfl⟩)
      go_ret
      exact ⟨by rw [HF.out]; rfl, HB1.out⟩
end
section
open Go.RowKit Go.Maps
attribute [local go_sem] alloc_drewN setCell_drewN World.cell?_alloc_some frozen_alloc_some
theorem back_any (p : Option Addr) (m cap : Nat) (w : World) : Calls Tryz.prog 143 #[.slice p m cap] w fun e w' => e = .returned (.func (.func 165) #[] #[.pointer (some ⟨w.heap.size, 0, none⟩)]) ∧ w' = w.alloc (.cells #[.slice p m cap] 92) := by
 have hmf : ∀ (fn : Fn) (first cap : Array Value) (w : World), (Instr.makeFunc fn first cap).run Tryz.prog w = .ok (.func fn first cap) w := fun _ _ _ _ => rfl
 go_enter Tryz.func143, Tryz.ntmps143
 go_wp2_with fail
 go_ret
 exact ⟨rfl, rfl⟩
def bkV (L : List Int) (x : Nat) : Array Value := #[.int .i64 x, .int .i64 (L.getD x 0)]
def BkG (L : List Int) (v : Value) (b1 : Nat) (W : World) : Prop := W.heap[b1]? = some (.cells #[v] 92 (0, 0)) ∧ Listed W v L
def BkT (L : List Int) (pre : List Nat) (x : Nat) (W : World) : Prop := x + 1 + pre.length = L.length
theorem back1_in (n : Nat) (hn : 1 ≤ n) (l b1 : Nat) (v : Value) (L : List Int) (hL : L.length ≤ 255) (Kp : World → World → Prop) (J Jx : List Nat → World → Prop) (hJ : ∀ s A, J s A → BkG L v b1 A)
 (hY : ∀ pre x W, J pre W → BkT L pre x W → YieldAt Fence.wide (n - 1) Tryz.prog l (bkV L x) W fun e W' =>
   (e = .returned (.bool true) ∧ J (pre ++ [x]) W' ∧ Kp W W') ∨ (e = .returned (.bool false) ∧ Jx (pre ++ [x]) W'))
 (W : World) (h0 : J [] W) :
 CallsIn Fence.wide n Tryz.prog 165 #[.func (.yield l) #[] #[], .pointer (some ⟨b1, 0, none⟩)] W fun e W' => (∃ v, e = .returned v) ∧
  ((∃ ys, ys.length = L.length ∧ J ys W') ∨ (∃ pre, pre.length ≤ L.length ∧ Jx pre W')) := by
 have HJ := Lib.hid hJ
 have HY := Lib.hid hY
 have H0 := Lib.hid h0
 obtain ⟨hb0, hl0⟩ := hJ _ _ h0
 have hc0 : W.cell? ⟨b1, 0, none⟩ = some v := cell_row hb0 0
 have hv : v = .slice none 0 0 ∧ L.length = 0 ∨ ∃ g cap, v = .slice (some ⟨g, 0, none⟩) L.length cap := by
  rcases hl0 with ⟨h1, h2⟩ | ⟨g, cap, h1, _⟩
  · exact .inl ⟨h1, by rw [h2]; rfl⟩
  · exact .inr ⟨g, cap, h1⟩
 have hvl : ∃ p cap, v = .slice p L.length cap := by
  rcases hv with ⟨h1, h2⟩ | ⟨g, cap, h1⟩
  · exact ⟨none, 0, by rw [h1, h2]⟩
  · exact ⟨_, cap, h1⟩
 obtain ⟨p, cap, rfl⟩ := hvl
 have hw1 : IntKind.i64.wrap ((L.length : Int) - 1) = (L.length : Int) - 1 := wrap_in (by omega) (by omega)
 clear hJ hY h0 hb0 hl0
 obtain ⟨m, hm⟩ : ∃ m, m = L.length := ⟨_, rfl⟩
 rw [← hm] at hc0 hw1
 have HM := Lib.hid hm
 refine callsIn_of_wp Tryz.func165 rfl trivial ?_ rfl
 simp only [Tryz.ntmps165, List.size_toArray, List.length_cons, List.length_nil, Nat.reduceAdd, Nat.reduceSub, Array.replicate_succ, Array.replicate_zero, List.push_toArray, List.append_toArray, List.nil_append, List.cons_append]
 gi_wp2
 gi_loopw [3] (fun i wr => ∃ (k : Nat) (pre : List Nat), k ≤ m ∧ i = .int .i64 ((k : Int) - 1) ∧ k + pre.length = m ∧ J pre wr) (fun i _ => (intOf i + 1).toNat)
 case atStart => exact ⟨m, [], Nat.le_refl _, by rw [hm], rfl, H0.out⟩
 case round =>
  clear hc0
  obtain ⟨k, pre, hk, rfl, hlen, hj⟩ := hrel
  by_cases hlt : 1 ≤ k
  · obtain ⟨x, rfl⟩ : ∃ x, k = x + 1 := ⟨k - 1, by omega⟩
    have e1 : ((x + 1 : Nat) : Int) - 1 = (x : Int) := by push_cast; omega
    rw [e1]
    obtain ⟨hb2, hl2⟩ := HJ.out _ _ hj
    have hc2 : wr.cell? ⟨b1, 0, none⟩ = some (.slice p L.length cap) := cell_row hb2 0
    rw [← hm] at hc2
    have hxl : x < L.length := by omega
    have hT : BkT L pre x wr := by unfold BkT; omega
    have hYY := HY.out pre x _ hj hT
    have hgd : L.getD x 0 = L[x] := by rw [List.getD_eq_getElem?_getD, List.getElem?_eq_getElem hxl]; rfl
    unfold bkV at hYY
    rw [hgd] at hYY
    obtain ⟨g, hcell, hpe⟩ : ∃ g, wr.cell? ⟨g, x, none⟩ = some (.int .i64 L[x]) ∧ p = some ⟨g, 0, none⟩ := by
     rcases hl2 with ⟨_, h2⟩ | ⟨g, cap', h1, h2⟩
     · rw [h2] at hxl
       exact absurd hxl (Nat.not_lt_zero _)
     · injection h1 with h1
       exact ⟨g, h2 x _ (List.getElem?_eq_getElem hxl), h1⟩
    subst hpe
    obtain ⟨fn, tmps, assign, body, hy, hR⟩ := hYY
    have HR := Lib.hid hR
    have HLE := Lib.hid hlen
    have hxm : (x : Int) < (m : Int) := by omega
    have hwx : IntKind.i64.wrap ((x : Int) - 1) = (x : Int) - 1 := wrap_in (by omega) (by omega)
    clear hR hlen hT hj hb2 hl2 hgd
    generalize L[x] = c at *
    gi_wp2
    refine HR.out.mono ?_
    rintro e W3 (⟨rfl, hJ3, hk3⟩ | ⟨rfl, hJx3⟩)
    · gi_wp2
      refine ⟨⟨x, pre ++ [x], by omega, rfl, ?_, hJ3⟩, by simp [intOf]⟩
      have := HLE.out
      rw [List.length_append]
      simp
      omega
    · gi_wp2
      refine bodyPost_ret (results_none rfl _ _ _) rfl ⟨⟨_, rfl⟩, .inr ⟨_, ?_, hJx3⟩⟩
      rw [List.length_append]
      have := HLE.out
      simp
      omega
  · obtain rfl : k = 0 := by omega
    gi_wp2
    go_end0
    exact ⟨⟨_, rfl⟩, .inl ⟨pre, by omega, hj⟩⟩
theorem back_stops (n : Nat) (hn : 1 ≤ n) (b1 : Nat) (v : Value) (L : List Int) (hL : L.length ≤ 255) (Kp : World → World → Prop) (w : World) :
 SeqStopsT Fence.wide n Tryz.prog 165 #[.pointer (some ⟨b1, 0, none⟩)] (bkV L) Kp (fun ys => ys.length = L.length) (fun pre => pre.length ≤ L.length) (BkT L) (BkG L v b1) w :=
 fun l J Jx W hW hAb _ hJ hY h0 => back1_in n hn l b1 v L hL Kp J Jx hJ hY W h0
end
section
open Go.RowKit Go.Maps
attribute [local go_sem] alloc_drewN setCell_drewN World.cell?_alloc_some frozen_alloc_some Oper.semAt_some
def prevT (C : Nat) (T : Nat → Bool) (col : Int) : Int := ((stopsI C T).reverse.find? (fun c => decide (c < col))).getD 0
theorem rfind_some {L : List Int} {p : Int → Bool} {x : Nat} {c : Int} (hx : L[x]? = some c) (hp : p c = true) (hl : ∀ (j : Nat) d, x < j → L[j]? = some d → p d = false) : L.reverse.find? p = some c := by
 obtain ⟨hlt, he⟩ := List.getElem?_eq_some_iff.1 hx
 have e : L = L.take x ++ (c :: L.drop (x + 1)) := by rw [← he, ← List.drop_eq_getElem_cons hlt, List.take_append_drop]
 rw [e, List.reverse_append, List.reverse_cons, List.append_assoc, List.find?_append]
 have hn : (L.drop (x + 1)).reverse.find? p = none := by
  rw [List.find?_eq_none]
  intro d hd
  rw [List.mem_reverse] at hd
  obtain ⟨j, hj⟩ := List.mem_iff_getElem?.1 hd
  rw [List.getElem?_drop] at hj
  rw [hl _ d (by omega) hj]
  exact Bool.false_ne_true
 rw [hn]
 simp [hp]
theorem rfind_none {L : List Int} {p : Int → Bool} (h : ∀ (j : Nat) d, L[j]? = some d → p d = false) : L.reverse.find? p = none := by
 rw [List.find?_eq_none]
 intro d hd
 rw [List.mem_reverse] at hd
 obtain ⟨j, hj⟩ := List.mem_iff_getElem?.1 hd
 rw [h j d hj]
 exact Bool.false_ne_true
theorem cell_kept {A B : World} {row : Option Nat} {n g k : Nat} {v : Value} (h : A.cell? ⟨g, k, none⟩ = some v) (hg : A.grownBy B row) (hr : ∀ r, row = some r → n ≤ r ∧ ∃ o : Obj, A.heap[r]? = some o ∧ o.isCells = false) : B.cell? ⟨g, k, none⟩ = some v := by
 have hc : ∃ c t fr, A.heap[g]? = some (.cells c t fr) := by
  unfold World.cell? at h
  split at h
  · rename_i c t fr e
    exact ⟨_, _, _, e⟩
  · cases h
 obtain ⟨c, t, fr, hc⟩ := hc
 have hb := cells_kept hg hr hc
 have e : B.heap[g]? = A.heap[g]? := hb.trans hc.symm
 unfold World.cell? at h ⊢
 rw [e]
 exact h
theorem listed_own {A B : World} {row : Option Nat} {n : Nat} {v : Value} {L : List Int} (h : Listed A v L) (hg : A.grownBy B row) (hr : ∀ r, row = some r → n ≤ r ∧ ∃ o : Obj, A.heap[r]? = some o ∧ o.isCells = false) : Listed B v L := by
 rcases h with h | ⟨g, cap, h1, h2⟩
 · exact .inl h
 · exact .inr ⟨g, cap, h1, fun k c hk => cell_kept (h2 k c hk) hg hr⟩
theorem tprev_in (n : Nat) (hn : 3 ≤ n) (tp mb C : Nat) (T : Nat → Bool) (col : Int) (w : World) (h : TabsAt w tp mb C T) (hC : C ≤ 255) :
 CallsIn Fence.wide n Tryz.prog 124 #[.pointer (some ⟨tp, 0, none⟩), .int .i64 col] w fun e w' => e = .returned (.int .i64 (prevT C T col)) ∧ Below w.heap.size w w' := by
 have h1 : 1 ≤ n := by omega
 have HB0 : Hid (Below w.heap.size w ((w.alloc (.cells #[.int .i64 col] 3)).alloc (.cells #[.int .i64 0] 3))) := Grows.below (((Grows.refl w).alloc _).alloc _)
 have HL := Lib.hid (tlist_ok tp mb C T _ (h.of_blocks (HB0.out.block _ h.lt.1) (HB0.out.block _ h.lt.2)) hC)
 obtain ⟨hn0, hn1, _⟩ := box2 (Below.refl ((w.alloc (.cells #[.int .i64 col] 3)).alloc (.cells #[.int .i64 0] 3)).heap.size ((w.alloc (.cells #[.int .i64 col] 3)).alloc (.cells #[.int .i64 0] 3)))
 have HN0 := Lib.hid hn0
 have HN1 := Lib.hid hn1
 have HLEN : Hid ((stopsI C T).length ≤ 255) := Nat.le_trans (stopsI_len C T) hC
 have HP : Hid (prevT C T col = ((stopsI C T).reverse.find? (fun c => decide (c < col))).getD 0) := rfl
 rw [HP.out]
 clear h hn0 hn1 HP
 generalize stopsI C T = L at *
 refine callsIn_of_wp_marks Tryz.func124 rfl trivial ?_ rfl
 simp only [Tryz.ntmps124, List.size_toArray, List.length_cons, List.length_nil, Nat.reduceAdd, Nat.reduceSub, Array.replicate_succ, Array.replicate_zero, List.push_toArray, List.append_toArray, List.nil_append, List.cons_append]
 gi_wp2_with (first
  | (refine ⟨trivial, ?_⟩; gi_at_call 143; refine (callsIn_wide.2 (back_any _ _ _ _)).mono ?_; rintro e w2 ⟨rfl, rfl⟩)
  | (refine ⟨trivial, ?_⟩; gi_at_call 64; refine (callsIn_wide.2 HL.out).mono ?_; rintro e w1 ⟨v, rfl, hrow, hnil, hb1⟩; have HLI := Lib.hid (listed_of hrow); have HB1 := Lib.hid (Below.later HB0.out hb1 HB0.out.size); have HX0 := Lib.hid ((hb1.block _ (block_lt HN0.out)).trans HN0.out); have HX1 := Lib.hid ((hb1.block _ (block_lt HN1.out)).trans HN1.out); obtain ⟨p, cap, rfl⟩ : ∃ p cap, v = .slice p L.length cap := (by rcases HLI.out with ⟨h1, h2⟩ | ⟨g, cap, h1, _⟩; (exact ⟨none, 0, by rw [h1, h2]; rfl⟩); (exact ⟨_, cap, h1⟩)); clear hb1 hrow hnil))
 have hl1 := HLI.out
 have hz1 : w.heap.size + 1 < w1.heap.size := block_lt HX1.out
 have hnb := below1 w1 (.cells #[.slice p L.length cap] 92)
 have HB2 := Lib.hid (Below.later HB1.out hnb HB1.out.size)
 refine wpIn_rangeFunc_T rfl h1 (gf := 165) (lb := #[.pointer (some ⟨w1.heap.size, 0, none⟩)]) rfl trivial (enters_of Tryz.func165 (by kernel_rfl) rfl)
  (back_stops (n - 1) (by omega) w1.heap.size (.slice p L.length cap) L HLEN.out (fun _ _ => True) _) (fun _ _ => trivial) (fun W l o o' _ hl ho _ => trivial) (Below.refl _ _) (fun _ => rfl)
  (fun pre W => BkG L (.slice p L.length cap) w1.heap.size W ∧ W.heap[w.heap.size]? = some (.cells #[.int .i64 col] 3 (0, 0)) ∧ W.heap[w.heap.size + 1]? = some (.cells #[.int .i64 0] 3 (0, 0)) ∧ Below w.heap.size w W ∧ (∀ (j : Nat) d, L.length - pre.length ≤ j → L[j]? = some d → decide (d < col) = false))
  (fun c pre W => c = .ret ∧ ∃ (x : Nat) (d : Int), L[x]? = some d ∧ decide (d < col) = true ∧ (∀ (j : Nat) d', x < j → L[j]? = some d' → decide (d' < col) = false) ∧ W.heap[w.heap.size + 1]? = some (.cells #[.int .i64 d] 3 (0, 0)) ∧ Below w.heap.size w W)
  ?hI ?hIx ?hT ?hGd ?h0
  (fun x b => { tmps := #[.pointer (some ⟨tp, 0, none⟩), .int .i64 col, undef, .pointer (some ⟨w.heap.size, 0, none⟩), .pointer (some ⟨w.heap.size + 1, 0, none⟩), undef, .int .i64 (L.getD x 0), .pointer (some ⟨tp, 0, none⟩), .slice p L.length cap, .func (.func 165) #[] #[.pointer (some ⟨w1.heap.size, 0, none⟩)], .int .i64 x, .int .i64 (L.getD x 0), undef, undef, undef, undef], defers := [] })
  (fun x W => W) (fun x b W => True)
  (fun x W => grown_of_below (Below.refl _ _)) (fun x W => trivial) (fun x W => trivial) (fun p A B row h hg hr => trivial) ?assign ?body ?done ?stop
 case hI =>
  rintro pre X Y rw ⟨⟨hb, hl⟩, i0, i1, hB, hf⟩ hgr hrow
  exact ⟨⟨cells_kept hgr hrow hb, listed_own hl hgr hrow⟩, cells_kept hgr hrow i0, cells_kept hgr hrow i1, below_own (by simp; omega) hB hgr hrow, hf⟩
 case hIx =>
  rintro c pre X Y rw ⟨hc, x, d, hx, hd, hf, i1, hB⟩ hgr hrow
  exact ⟨hc, x, d, hx, hd, hf, cells_kept hgr hrow i1, below_own (by simp; omega) hB hgr hrow⟩
 case hT => exact fun p A B row h _ _ => h
 case hGd => exact fun s A h => h.1
 case h0 => exact ⟨⟨heap_alloc_new _ _, listed_own (n := 0) hl1 (grown_of_below hnb) (fun r e => by cases e)⟩, (hnb.block _ (block_lt HX0.out)).trans HX0.out, (hnb.block _ (block_lt HX1.out)).trans HX1.out, HB2.out, fun j d hj hd => by
  have := (List.getElem?_eq_some_iff.1 hd).1
  simp at hj
  omega⟩
 case assign =>
  intro l x W K hK
  unfold bkV
  generalize L.getD x 0 = d at *
  gi_wp2
  exact hK
 case body =>
  rintro l pre x b W hb ⟨hG, i0, i1, hB, hf⟩ hT _
  have hxl : x < L.length := by unfold BkT at hT; omega
  have hgd : L.getD x 0 = L[x] := by rw [List.getD_eq_getElem?_getD, List.getElem?_eq_getElem hxl]; rfl
  have hxe : L[x]? = some L[x] := List.getElem?_eq_getElem hxl
  rw [hgd]
  have hnx : ∀ (j : Nat) d', x < j → L[j]? = some d' → decide (d' < col) = false := fun j d' hj hd => hf j d' (by unfold BkT at hT; omega) hd
  have hlen : L.length - (pre ++ [x]).length = x := by unfold BkT at hT; rw [List.length_append]; simp; omega
  have HXE := Lib.hid hxe
  have HNX := Lib.hid hnx
  have HLN := Lib.hid hlen
  have HG := Lib.hid hG
  have HI := Lib.hid (And.intro i0 i1)
  have HBB := Lib.hid hB
  have c0 : W.cell? ⟨w.heap.size, 0, none⟩ = some (.int .i64 col) := cell_row i0 0
  have c1 : W.cell? ⟨w.heap.size + 1, 0, none⟩ = some (.int .i64 0) := cell_row i1 0
  have f1 := frozen_row i1 0
  have hszW : w.heap.size + 1 < W.heap.size := block_lt i1
  have hb' : w1.heap.size + 1 ≤ b := by simpa using hb
  clear hG i0 i1 hB hf hT hgd hxe hnx hlen
  generalize L[x] = d at *
  generalize hQP : ownPostG _ _ _ _ _ _ = QP
  have HQP := Lib.hid hQP
  clear hQP
  by_cases hd : d < col
  · gi_wp2
    rw [← HQP.out]
    refine ⟨(KeepsOthers.setCell _ _ _).from _, rfl, x, d, HXE.out, decide_eq_true hd, HNX.out, set_one HI.out.2 _, HBB.out.setCell (p := ⟨w.heap.size + 1, 0, none⟩) (by show w.heap.size ≤ w.heap.size + 1; omega) _⟩
  · have hd' : col ≤ d := by omega
    gi_wp2
    rw [← HQP.out]
    refine ⟨KeepsFrom.refl _ _, trivial, HG.out, HI.out.1, HI.out.2, HBB.out, fun j d' hj hl => ?_⟩
    rw [HLN.out] at hj
    by_cases e : j = x
    · subst e
      rw [HXE.out] at hl
      injection hl with hl
      rw [← hl]
      exact decide_eq_false (by omega)
    · exact HNX.out j d' (by omega) hl
 case done =>
  rintro E ys W hE hS ⟨hG, i0, i1, hB, hf⟩ hK
  have HON := Lib.hid (show L.reverse.find? (fun c => decide (c < col)) = none from rfind_none fun j d hd => hf j d (by rw [hS]; omega) hd)
  have c1 : W.cell? ⟨w.heap.size + 1, 0, none⟩ = some (.int .i64 0) := cell_row i1 0
  have f1 := frozen_row i1 0
  have hE' : w1.heap.size + 1 ≤ E := by simpa using hE
  have HK := Lib.hid hK
  have HI := Lib.hid i1
  have HBB := Lib.hid hB
  clear hG i0 i1 hB hf hK
  gi_wp2
  have hw7 : (W.setCell ⟨w.heap.size + 1, 0, none⟩ (.int .i64 0)).heap[w.heap.size + 1]? = some (.cells #[.int .i64 0] 3 (0, 0)) := set_one HI.out _
  have hK7 : (W.setCell ⟨w.heap.size + 1, 0, none⟩ (.int .i64 0)).heap[E]? = some (.deferred (some [])) := (heap_setCell_other _ _ _ _ (by show E ≠ w.heap.size + 1; omega)).trans HK.out
  have hB8 : Below w.heap.size w (W.setCell ⟨w.heap.size + 1, 0, none⟩ (.int .i64 0)) := HBB.out.setCell (p := ⟨w.heap.size + 1, 0, none⟩) (by show w.heap.size ≤ w.heap.size + 1; omega) _
  generalize W.setCell ⟨w.heap.size + 1, 0, none⟩ (.int .i64 0) = WZ at *
  have hw8 : (WZ.putObj E (.deferred none)).heap[w.heap.size + 1]? = some (.cells #[.int .i64 0] 3 (0, 0)) := (World.putObj_heap_other (by omega)).trans hw7
  have z0 : (WZ.putObj E (.deferred none)).cell? ⟨w.heap.size + 1, 0, none⟩ = some (.int .i64 0) := cell_row hw8 0
  have hh := grownBy_putObj' WZ E (.deferred none)
  refine ⟨by simp, .inl ⟨_, _, rfl, run_takeDeferred hK7, ?_⟩⟩
  exact ⟨.int .i64 0, by simp [results, Tryz.results124, go_sem, z0], by rw [HON.out]; rfl, hB8.grown hh hB8.size (fun k e => by cases e; omega)⟩
 case stop =>
  rintro E c pre W hE hpre ⟨rfl, x, d, hx, hd, hf, i1, hB⟩ hK
  have HON := Lib.hid (show L.reverse.find? (fun c => decide (c < col)) = some d from rfind_some hx hd hf)
  have c1 : W.cell? ⟨w.heap.size + 1, 0, none⟩ = some (.int .i64 d) := cell_row i1 0
  have hE' : w1.heap.size + 1 ≤ E := by simpa using hE
  have HK := Lib.hid hK
  have HI := Lib.hid i1
  have HBB := Lib.hid hB
  clear hx hf i1 hB hK
  gi_wp2
  have hw7 := HI.out
  have hK7 := HK.out
  have hB8 := HBB.out
  generalize W = WZ at *
  have hw8 : (WZ.putObj E (.deferred none)).heap[w.heap.size + 1]? = some (.cells #[.int .i64 d] 3 (0, 0)) := (World.putObj_heap_other (by omega)).trans hw7
  have z0 : (WZ.putObj E (.deferred none)).cell? ⟨w.heap.size + 1, 0, none⟩ = some (.int .i64 d) := cell_row hw8 0
  have hh := grownBy_putObj' WZ E (.deferred none)
  refine ⟨by simp, .inl ⟨_, _, rfl, run_takeDeferred hK7, ?_⟩⟩
  exact ⟨.int .i64 d, by simp [results, Tryz.results124, go_sem, z0], by rw [HON.out]; rfl, hB8.grown hh hB8.size (fun k e => by cases e; omega)⟩
theorem tprev_ok (tp mb C : Nat) (T : Nat → Bool) (col : Int) (w : World) (h : TabsAt w tp mb C T) (hC : C ≤ 255) :
 Calls Tryz.prog 124 #[.pointer (some ⟨tp, 0, none⟩), .int .i64 col] w fun e w' => e = .returned (.int .i64 (prevT C T col)) ∧ Below w.heap.size w w' :=
 callsIn_wide.1 (tprev_in 3 (Nat.le_refl _) tp mb C T col w h hC)
end
section
open Go.RowKit Go.Maps
attribute [local go_sem] alloc_drewN setCell_drewN World.cell?_alloc_some frozen_alloc_some
def iterZ (f : Int → Int) : Nat → Int → Int
 | 0, x => x
 | k + 1, x => f (iterZ f k x)
def goT (C : Nat) (T : Nat → Bool) (col n : Int) : Int := iterZ (prevT C T) (min (-n) 255).toNat (iterZ (nextT C T) (min n 255).toNat col)
theorem goT_pos {C : Nat} {T : Nat → Bool} {col n : Int} (h : 0 < n) : goT C T col n = iterZ (nextT C T) (min n 255).toNat col := by
 unfold goT
 rw [show (min (-n) 255).toNat = 0 by omega]
 rfl
theorem goT_neg {C : Nat} {T : Nat → Bool} {col n : Int} (h : n < 0) : goT C T col n = iterZ (prevT C T) (min (-n) 255).toNat col := by
 unfold goT
 rw [show (min n 255).toNat = 0 by omega]
 rfl
theorem TabsAt.older {w W : World} {tp mb C : Nat} {T : Nat → Bool} (h : TabsAt w tp mb C T) (hb : Below w.heap.size w W) : TabsAt W tp mb C T := h.of_blocks (hb.block _ h.lt.1) (hb.block _ h.lt.2)
theorem tgo_pos (tp mb C : Nat) (T : Nat → Bool) (col n : Int) (w : World) (h : TabsAt w tp mb C T) (hC : 1 ≤ C ∧ C ≤ 255) (hn : 0 < n ∧ n < 9223372036854775808) :
 Calls Tryz.prog 104 #[.pointer (some ⟨tp, 0, none⟩), .int .i64 col, .int .i64 n] w fun e w' => e = .returned (.int .i64 (goT C T col n)) ∧ Below w.heap.size w w' := by
 rw [goT_pos hn.1]
 have HNX := Lib.hid (fun W (hb : Below w.heap.size w W) c => tnext_ok tp mb C T c W (h.older hb) hC)
 obtain ⟨a, ha⟩ : ∃ a : Nat, a = (min n 255).toNat := ⟨_, rfl⟩
 have hm1 : min n 255 = (a : Int) := by omega
 rw [← ha]
 have hmx : max n (-255) = n := by omega
 have hneg : IntKind.i64.wrap (-n) = -n := wrap_in (by omega) (by omega)
 have hm2 : min (-n) 255 = -n := by omega
 have hn0 : ¬ n = 0 := by omega
 have he : (n == 0) = false := by rw [eqb]; exact decide_eq_false hn0
 have hnl : -n ≤ 0 := by omega
 have hnl2 : 0 ≤ n := by omega
 have ha2 : a ≤ 255 := by omega
 clear h ha
 generalize hf : nextT C T = f at *
 go_enter Tryz.func104, Tryz.ntmps104
 go_wp2_with fail
 go_loopw [1, 17] (fun c i wr => ∃ k : Nat, k ≤ a ∧ i = .int .i64 (k : Int) ∧ c = .int .i64 (iterZ f k col) ∧ Below w.heap.size w wr) (fun _ i _ => a - (intOf i).toNat)
 case atStart => exact ⟨0, Nat.zero_le _, rfl, rfl, Below.refl _ _⟩
 case round =>
  obtain ⟨k, hk, rfl, rfl, hb⟩ := hrel
  have HB := Lib.hid hb
  clear hb
  by_cases hlt : k < a
  · have hlz : (k : Int) < (a : Int) := by omega
    have hwk : IntKind.i64.wrap ((k : Int) + 1) = ((k + 1 : Nat) : Int) := by rw [wrap_in (by omega) (by omega)]; rfl
    have HS : Hid (iterZ f (k + 1) col = f (iterZ f k col)) := rfl
    generalize iterZ f k col = c at *
    go_wp2_with (go_at_call 123; refine (HNX.out _ HB.out c).mono ?_; rintro e w2 ⟨rfl, hb2⟩; have HB2 := Lib.hid (Below.later HB.out hb2 HB.out.size); clear hb2)
    exact ⟨⟨k + 1, by omega, by push_cast; rfl, by rw [HS.out], HB2.out⟩, by simp [intOf]; omega⟩
  · obtain rfl : k = a := by omega
    obtain ⟨c, hc⟩ : ∃ c, c = iterZ f k col := ⟨_, rfl⟩
    rw [← hc]
    have HC := Lib.hid hc
    clear hc
    go_wp2_with fail
    refine wp_loop_rounds 1 ?_
    rw [rounds_succ]
    go_wp2_with fail
    go_ret
    exact ⟨by rw [← HC.out]; rfl, HB.out⟩
theorem tgo_neg (tp mb C : Nat) (T : Nat → Bool) (col n : Int) (w : World) (h : TabsAt w tp mb C T) (hC : 1 ≤ C ∧ C ≤ 255) (hn : -9223372036854775808 ≤ n ∧ n < 0) :
 Calls Tryz.prog 104 #[.pointer (some ⟨tp, 0, none⟩), .int .i64 col, .int .i64 n] w fun e w' => e = .returned (.int .i64 (goT C T col n)) ∧ Below w.heap.size w w' := by
 rw [goT_neg hn.2]
 have HNX := Lib.hid (fun W (hb : Below w.heap.size w W) c => tprev_ok tp mb C T c W (h.older hb) hC.2)
 obtain ⟨a, ha⟩ : ∃ a : Nat, a = (min (-n) 255).toNat := ⟨_, rfl⟩
 rw [← ha]
 have hm1 : min n 255 = n := by omega
 have hmx : max n (-255) = -(a : Int) := by omega
 have hneg : IntKind.i64.wrap (a : Int) = (a : Int) := wrap_in (by omega) (by omega)
 have hm2 : min (a : Int) 255 = (a : Int) := by omega
 have hn0 : ¬ n = 0 := by omega
 have he : (n == 0) = false := by rw [eqb]; exact decide_eq_false hn0
 have hnl2 : n ≤ 0 := by omega
 have ha2 : a ≤ 255 := by omega
 clear h ha
 generalize hf : prevT C T = f at *
 go_enter Tryz.func104, Tryz.ntmps104
 go_wp2_with fail
 refine wp_loop_rounds 1 ?_
 rw [rounds_succ]
 go_wp2_with fail
 go_loopw [1, 27] (fun c i wr => ∃ k : Nat, k ≤ a ∧ i = .int .i64 (k : Int) ∧ c = .int .i64 (iterZ f k col) ∧ Below w.heap.size w wr) (fun _ i _ => a - (intOf i).toNat)
 case atStart => exact ⟨0, Nat.zero_le _, rfl, rfl, Below.refl _ _⟩
 case round =>
  obtain ⟨k, hk, rfl, rfl, hb⟩ := hrel
  have HB := Lib.hid hb
  clear hb
  by_cases hlt : k < a
  · have hlz : (k : Int) < (a : Int) := by omega
    have hwk : IntKind.i64.wrap ((k : Int) + 1) = ((k + 1 : Nat) : Int) := by rw [wrap_in (by omega) (by omega)]; rfl
    have HS : Hid (iterZ f (k + 1) col = f (iterZ f k col)) := rfl
    generalize iterZ f k col = c at *
    go_wp2_with (go_at_call 124; refine (HNX.out _ HB.out c).mono ?_; rintro e w2 ⟨rfl, hb2⟩; have HB2 := Lib.hid (Below.later HB.out hb2 HB.out.size); clear hb2)
    exact ⟨⟨k + 1, by omega, by push_cast; rfl, by rw [HS.out], HB2.out⟩, by simp [intOf]; omega⟩
  · obtain rfl : k = a := by omega
    obtain ⟨c, hc⟩ : ∃ c, c = iterZ f k col := ⟨_, rfl⟩
    rw [← hc]
    have HC := Lib.hid hc
    clear hc
    go_wp2_with fail
    go_ret
    exact ⟨by rw [← HC.out]; rfl, HB.out⟩
theorem tgo_ok (tp mb C : Nat) (T : Nat → Bool) (col n : Int) (w : World) (h : TabsAt w tp mb C T) (hC : 1 ≤ C ∧ C ≤ 255) (hn : -9223372036854775808 ≤ n ∧ n < 9223372036854775808) (hn0 : n ≠ 0) :
 Calls Tryz.prog 104 #[.pointer (some ⟨tp, 0, none⟩), .int .i64 col, .int .i64 n] w fun e w' => e = .returned (.int .i64 (goT C T col n)) ∧ Below w.heap.size w w' := by
 by_cases h0 : 0 < n
 · exact tgo_pos tp mb C T col n w h hC ⟨h0, hn.2⟩
 · exact tgo_neg tp mb C T col n w h hC ⟨hn.1, by omega⟩
end
section
open Go.RowKit Go.Maps Go.Shelf Go.Lib
attribute [local go_sem] alloc_drewN setCell_drewN World.cell?_alloc_some frozen_alloc_some
theorem TabsAt.below {W W' : World} {tp mb C : Nat} {T : Nat → Bool} (h : TabsAt W tp mb C T) (hb : Below W.heap.size W W') : TabsAt W' tp mb C T := h.of_blocks (hb.block _ h.lt.1) (hb.block _ h.lt.2)
theorem TabsAt.ne {W : World} {tp mb C : Nat} {T : Nat → Bool} (h : TabsAt W tp mb C T) : tp ≠ mb := fun e => by
 subst e
 obtain ⟨a, ⟨es, clock, b, r⟩, c⟩ := h
 rw [a] at b
 cases b
def outC (C : Nat) (c : Int) : Bool := decide (c < 0) || decide ((C : Int) ≤ c)
theorem put1_pred (C tp mb B : Nat) (T : Nat → Bool) (w : World) (hB : B < w.heap.size) (hbox : w.heap[B]? = some (.cells #[.pointer (some ⟨tp, 0, none⟩)] 78 (0, 0))) (ht : TabsAt w tp mb C T) :
 PredAt Tryz.prog 151 #[.pointer (some ⟨B, 0, none⟩)] (Value.int .i64) (outC C) w := fun W x hb => by
 have hc : W.cell? ⟨B, 0, none⟩ = some (.pointer (some ⟨tp, 0, none⟩)) := cell_row ((hb.block _ hB).trans hbox) 0
 obtain ⟨a, _, _⟩ := ht.below hb
 have hC := cell_row a 0
 have hC' : W.cell? ⟨tp, 0, none⟩ = some (.int .i64 (C : Int)) := hC
 show Calls Tryz.prog 151 #[.int .i64 x, .pointer (some ⟨B, 0, none⟩)] W _
 clear a hb hbox ht hC
 unfold outC
 by_cases h1 : x < 0
 · go_enter Tryz.func151, Tryz.ntmps151
   go_wp2
   all_goals (go_ret; exact ⟨by simp_all, 0, rfl⟩)
 · go_enter Tryz.func151, Tryz.ntmps151
   go_wp2
   all_goals (go_ret; exact ⟨by simp_all <;> omega, 0, rfl⟩)
theorem tput_in (tp mb C c cap sb : Nat) (T : Nat → Bool) (on : Bool) (w : World) (h : TabsAt w tp mb C T) (hC : C ≤ 255) (hc : c < C) (hs : w.cell? ⟨sb, 0, none⟩ = some (.int .i64 (c : Int))) (hsb : sb ≠ mb) (hsl : sb < w.heap.size) :
 Calls Tryz.prog 136 #[.pointer (some ⟨tp, 0, none⟩), .bool on, .slice (some ⟨sb, 0, none⟩) 1 cap] w fun e w' => e = .returned (.int .i64 0) ∧ TabsTo w w' tp mb C (setT T c on) := by
 have HB0 : Hid (Below w.heap.size w (w.alloc (.cells #[.pointer (some ⟨tp, 0, none⟩)] 78))) := below1 _ _
 have hbox := heap_alloc_new w (.cells #[.pointer (some ⟨tp, 0, none⟩)] 78)
 have HT := Lib.hid (h.below HB0.out)
 have HP := Lib.hid (AnyE.slices_ContainsFunc Tryz.anyA (Value.int .i64) (outC C) 151 #[.pointer (some ⟨w.heap.size, 0, none⟩)] (enters_of Tryz.func151 (by kernel_rfl) rfl) sb 0 1 cap [(c : Int)] (w.alloc (.cells #[.pointer (some ⟨tp, 0, none⟩)] 78)) (put1_pred C tp mb w.heap.size T _ (by simp) hbox HT.out) (by simp) (by omega) (fun j hj => (by
  have hj0 : j = 0 := by simpa using hj
  subst hj0
  exact (HB0.out.cell (p := ⟨sb, 0, none⟩) hsl).trans hs)))
 have hout : ([(c : Int)].take 1).any (outC C) = false := by
  simp [outC]
  omega
 have HCON : Hid (Calls Tryz.prog 150 #[.slice (some ⟨sb, 0, none⟩) 1 cap, .func (.func 151) #[] #[.pointer (some ⟨w.heap.size, 0, none⟩)]] (w.alloc (.cells #[.pointer (some ⟨tp, 0, none⟩)] 78)) fun e w' => e = .returned (.bool false) ∧ ∃ q, w' = (w.alloc (.cells #[.pointer (some ⟨tp, 0, none⟩)] 78)).drewN q) := by
  have := HP.out
  rw [hout] at this
  exact this
 have hmf : ∀ (fn : Fn) (first cap : Array Value) (w : World), (Instr.makeFunc fn first cap).run Tryz.prog w = .ok (.func fn first cap) w := fun _ _ _ _ => rfl
 have hb0 := (cell_row hbox 0 : (w.alloc (.cells #[.pointer (some ⟨tp, 0, none⟩)] 78)).cell? ⟨w.heap.size, 0, none⟩ = _)
 have hcs : (w.alloc (.cells #[.pointer (some ⟨tp, 0, none⟩)] 78)).cell? ⟨sb, 0, none⟩ = some (.int .i64 (c : Int)) := (HB0.out.cell (p := ⟨sb, 0, none⟩) hsl).trans hs
 have HNE := Lib.hid h.ne
 have HLT := Lib.hid h.lt
 have HT2 := Lib.hid h.2.2
 clear HP hout h hs hbox
 have hb0' : (w.alloc (.cells #[.pointer (some ⟨tp, 0, none⟩)] 78)).cell? ⟨w.heap.size, 0, none⟩ = some (.pointer (some ⟨tp, 0, none⟩)) := hb0
 clear hb0
 go_enter Tryz.func136, Tryz.ntmps136
 go_wp2_with (go_at_call 150; refine HCON.out.mono ?_; rintro e w1 ⟨rfl, q, hw1⟩; have HW1 := Lib.hid hw1; clear hw1)
 have hbe : Below w.heap.size w w1 := by rw [HW1.out]; exact Below.later HB0.out (below_drewN' q) HB0.out.size
 have hbe0 : Below (w.heap.size + 1) (w.alloc (.cells #[.pointer (some ⟨tp, 0, none⟩)] 78)) w1 := by rw [HW1.out]; exact below_drewN' q
 have htw : TabsAt w1 tp mb C T := HT.out.below (hbe0.mono (by simp))
 have hcs1 : w1.cell? ⟨sb, 0, none⟩ = some (.int .i64 (c : Int)) := by rw [HW1.out]; exact hcs
 have hb1 : w1.cell? ⟨w.heap.size, 0, none⟩ = some (.pointer (some ⟨tp, 0, none⟩)) := by rw [HW1.out]; exact hb0'
 have hm1 : w1.cell? ⟨tp, 1, none⟩ = some (.map (some mb)) := cell_row htw.1 1
 have hown := htw.2.1
 have HTW := Lib.hid htw
 have HBE := Lib.hid hbe
 clear hcs hb0' hbe hbe0 htw
 have hkey : keyOf Tryz.prog 3 (.int .i64 (c : Int)) = some (.int .i64 (c : Int)) := keyOf_int_mk Tryz.underlying3 (WalkArith.wf_i64 (by omega))
 have HFIN : Hid (∀ w2 D2 m, w2.ownsMap Tryz.prog 3 unitElem mb m D2 → D2 = stopsD C (setT T c on) → w1.mapTurned w2 mb → TabsTo w w2 tp mb C (setT T c on)) := fun w2 D2 m ho hD ht => by
  subst hD
  refine ⟨⟨(turned_other ht HNE.out).trans HTW.out.1, owns_shrink ho (stops_size _ _), fun k hk => ?_⟩, (Keeps.of_below HBE.out).trans (turned_keeps ht (.inr rfl)) (fun k hk => .inl hk)⟩
  unfold setT at hk
  split at hk
  · rename_i e; rw [e]; exact hc
  · exact HT2.out k hk
 refine wp_loop_rounds 2 ?_
 rw [rounds_succ]
 cases on
 · go_wp2_with (at_delete; refine wpList_delete_own _ rfl _ _ 116 3 rfl 121 keyed_int Tryz.underlying116 _ mb C _ rfl hown _ _ rfl hkey ?_; intro w2 hown2 hturn2)
   have HEND := Lib.hid (HFIN.out w2 _ _ hown2 (stops_del (hown2.canon keyed_int)) hturn2)
   clear hown2 hturn2 hown
   rw [rounds_succ]
   go_wp2_with fail
   go_ret
   exact ⟨rfl, HEND.out⟩
 · go_wp2_with (at_mapUpdate; refine wpList_mapUpdate_in _ rfl _ _ _ 116 rfl 3 121 keyed_int Tryz.underlying116 _ mb C _ rfl hown (by unfold maxLen; omega) _ _ _ rfl rfl hkey _ [] unitElem_mk ?_; intro w2 hown2 hturn2)
   have HEND := Lib.hid (HFIN.out w2 _ _ hown2 (stops_put hc (hown2.canon keyed_int)) hturn2)
   clear hown2 hturn2 hown
   rw [rounds_succ]
   go_wp2_with fail
   go_ret
   exact ⟨rfl, HEND.out⟩
theorem tput_out (tp mb C cap sb : Nat) (c : Int) (T : Nat → Bool) (on : Bool) (w : World) (h : TabsAt w tp mb C T) (hc : c < 0 ∨ (C : Int) ≤ c) (hs : w.cell? ⟨sb, 0, none⟩ = some (.int .i64 c)) (hsl : sb < w.heap.size) :
 Calls Tryz.prog 136 #[.pointer (some ⟨tp, 0, none⟩), .bool on, .slice (some ⟨sb, 0, none⟩) 1 cap] w fun e w' => e = .returned (.int .i64 11) ∧ Below w.heap.size w w' := by
 have HB0 : Hid (Below w.heap.size w (w.alloc (.cells #[.pointer (some ⟨tp, 0, none⟩)] 78))) := below1 _ _
 have hbox := heap_alloc_new w (.cells #[.pointer (some ⟨tp, 0, none⟩)] 78)
 have HT := Lib.hid (h.below HB0.out)
 have HP := Lib.hid (AnyE.slices_ContainsFunc Tryz.anyA (Value.int .i64) (outC C) 151 #[.pointer (some ⟨w.heap.size, 0, none⟩)] (enters_of Tryz.func151 (by kernel_rfl) rfl) sb 0 1 cap [c] (w.alloc (.cells #[.pointer (some ⟨tp, 0, none⟩)] 78)) (put1_pred C tp mb w.heap.size T _ (by simp) hbox HT.out) (by simp) (by omega) (fun j hj => (by
  have hj0 : j = 0 := by simpa using hj
  subst hj0
  exact (HB0.out.cell (p := ⟨sb, 0, none⟩) hsl).trans hs)))
 have hout : ([c].take 1).any (outC C) = true := by
  simp [outC]
  omega
 have HCON : Hid (Calls Tryz.prog 150 #[.slice (some ⟨sb, 0, none⟩) 1 cap, .func (.func 151) #[] #[.pointer (some ⟨w.heap.size, 0, none⟩)]] (w.alloc (.cells #[.pointer (some ⟨tp, 0, none⟩)] 78)) fun e w' => e = .returned (.bool true) ∧ ∃ q, w' = (w.alloc (.cells #[.pointer (some ⟨tp, 0, none⟩)] 78)).drewN q) := by
  have := HP.out
  rw [hout] at this
  exact this
 have hmf : ∀ (fn : Fn) (first cap : Array Value) (w : World), (Instr.makeFunc fn first cap).run Tryz.prog w = .ok (.func fn first cap) w := fun _ _ _ _ => rfl
 have hb0 : (w.alloc (.cells #[.pointer (some ⟨tp, 0, none⟩)] 78)).cell? ⟨w.heap.size, 0, none⟩ = some (.pointer (some ⟨tp, 0, none⟩)) := cell_row hbox 0
 clear HP hout h hs hbox
 go_enter Tryz.func136, Tryz.ntmps136
 go_wp2_with (go_at_call 150; refine HCON.out.mono ?_; rintro e w1 ⟨rfl, q, hw1⟩; have HW1 := Lib.hid hw1; clear hw1)
 go_ret
 exact ⟨rfl, by rw [HW1.out]; exact Below.later HB0.out (below_drewN' q) HB0.out.size⟩
end
section
open Go.RowKit Go.Maps
attribute [local go_sem] alloc_drewN setCell_drewN World.cell?_alloc_some frozen_alloc_some
theorem clear_map {P : Program} {k t e : TypeId} {R : Value → Option (DataW Unit × List MemPlace)} {w : World} {b n : Nat} {D : DataW Unit} (h : w.ownsMap P k R b n D) (ht : P.underlying t = some (.map k e)) :
 ∃ w', (∀ ty, (Builtin.clear_ #[t] ty #[.map (some b)]).run P w = .ok (.tuple #[]) w') ∧ w'.ownsMap P k R b 0 (.map []) ∧ w.mapTurned w' b := by
 obtain ⟨es, clock, hb, F, hs, hD⟩ := h
 exact ⟨Go.ChangeMaps.setBlock w b (.map #[] clock), fun ty => by simp [Builtin.clear_, run_underlying ht, MapKept.run_getObj_map hb, MapKept.run_setObj_map _ hb, Result.andThen, Go.ChangeMaps.setBlock], ⟨#[], clock, Go.ChangeMaps.heap_setBlock_same hb _, ⟨by simp, Go.MapKept.stamped_empty _, by simp⟩, Nat.le_refl _, rfl⟩, ⟨es, clock, #[], clock, hb, rfl⟩⟩
theorem stops_congr {C : Nat} {T T' : Nat → Bool} (h : ∀ c, c < C → T c = T' c) : stopsD C T = stopsD C T' := by
 unfold stopsD Vz.stopsL
 rw [List.filter_congr (fun c hc => h c (List.mem_range.1 hc))]
def everyT (B n : Nat) : Nat → Bool := fun c => decide (0 < c) && decide (0 < n) && decide (c < B) && decide (c % n = 0)
theorem every_none (C n : Nat) : stopsD C (everyT n n) = .map [] := by
 have : Vz.stopsL C (everyT n n) = [] := by
  unfold Vz.stopsL
  rw [List.filter_eq_nil_iff]
  intro c _ h
  unfold everyT at h
  simp only [Bool.and_eq_true, decide_eq_true_eq] at h
  obtain ⟨⟨⟨h1, h2⟩, h3⟩, h4⟩ := h
  rw [Nat.mod_eq_of_lt h3] at h4
  omega
 unfold stopsD
 rw [this]
 rfl
theorem every_zero (C : Nat) : stopsD C (everyT C 0) = .map [] := by
 have : Vz.stopsL C (everyT C 0) = [] := by
  unfold Vz.stopsL
  rw [List.filter_eq_nil_iff]
  intro c _ h
  unfold everyT at h
  simp at h
 unfold stopsD
 rw [this]
 rfl
theorem every_step (C n k : Nat) (hn : 0 < n) (hk : 1 ≤ k) : stopsD C (setT (everyT (k * n) n) (k * n) true) = stopsD C (everyT ((k + 1) * n) n) := by
 refine stops_congr fun c hc => ?_
 unfold setT everyT
 rw [Nat.succ_mul]
 by_cases e : c = k * n
 · subst e
   rw [if_pos rfl]
   have : 0 < k * n := Nat.mul_pos hk hn
   simp [this, hn]
 · rw [if_neg e]
   by_cases h1 : c < k * n
   · simp [h1, show c < k * n + n by omega]
   · by_cases h2 : c < k * n + n
     · have : c % n ≠ 0 := fun h => by
        obtain ⟨d, rfl⟩ := Nat.dvd_of_mod_eq_zero h
        rw [Nat.mul_comm] at e h1 h2
        have h3 : k < d := by
         rcases Nat.lt_or_ge k d with h | h
         · exact h
         · have := Nat.mul_le_mul_right n h
           rcases Nat.lt_or_ge (d * n) (k * n) with h' | h'
           · exact absurd h' h1
           · exact absurd (Nat.le_antisymm this h') e
        have := Nat.mul_le_mul_right n h3
        rw [Nat.succ_mul] at this
        omega
       simp [h1, h2, this]
     · simp [h1, h2]
theorem every_done (C n k : Nat) (h : C ≤ k * n) : stopsD C (everyT (k * n) n) = stopsD C (everyT C n) := by
 refine stops_congr fun c hc => ?_
 unfold everyT
 simp [show c < k * n by omega, hc]
theorem everyT_lt {C n c : Nat} (h : everyT C n c = true) : c < C := by
 unfold everyT at h
 simp only [Bool.and_eq_true, decide_eq_true_eq] at h
 exact h.1.2
theorem tevery_ok (tp mb C n : Nat) (T : Nat → Bool) (w : World) (h : TabsAt w tp mb C T) (hC : C ≤ 255) (hn : n < 9223372036854775808) :
 Calls Tryz.prog 57 #[.pointer (some ⟨tp, 0, none⟩), .int .i64 n] w fun e w' => e = .returned (.int .i64 0) ∧ TabsTo w w' tp mb C (everyT C n) := by
 have hne := h.ne
 have HNE := Lib.hid hne
 have hm1 : w.cell? ⟨tp, 1, none⟩ = some (.map (some mb)) := cell_row h.1 1
 obtain ⟨w1, hclr, hown1, hturn1⟩ := clear_map h.2.1 Tryz.underlying116
 have HTP := Lib.hid h.1
 have HLT := Lib.hid h.lt
 have HK1 : Hid (Keeps (fun k => k = tp ∨ k = mb) w w1) := turned_keeps hturn1 (.inr rfl)
 have HTP1 : Hid (w1.heap[tp]? = some (.cells #[.int .i64 C, .map (some mb)] 118 (0, 0))) := (turned_other hturn1 hne).trans h.1
 have HO1 := Lib.hid hown1
 clear h hne hturn1 hown1
 go_enter Tryz.func57, Tryz.ntmps57
 go_wp2_with fail
 have HKE : Hid (∀ wr m D, D = stopsD C (everyT C n) → wr.heap[tp]? = some (.cells #[.int .i64 C, .map (some mb)] 118 (0, 0)) → wr.ownsMap Tryz.prog 3 unitElem mb m D → Keeps (fun k => k = tp ∨ k = mb) w wr → TabsTo w wr tp mb C (everyT C n)) := fun wr m D e a b c => by
  subst e
  exact ⟨⟨a, owns_shrink b (stops_size _ _), fun k hk => everyT_lt hk⟩, c⟩
 have hu := @unitElem_mk Unit
 by_cases hz : n = 0
 · subst hz
   have HEND := Lib.hid (HKE.out w1 0 _ (every_zero C).symm HTP1.out HO1.out HK1.out)
   refine wp_loop_rounds 1 ?_
   rw [rounds_succ]
   go_wp2_with fail
   go_ret
   exact ⟨rfl, HEND.out⟩
 · have hp : 0 < n := by omega
   have hpz : (0 : Int) < (n : Int) := by omega
   have HS := Lib.hid (every_none C n)
   go_loopw [5] (fun i wr => ∃ k q : Nat, 1 ≤ k ∧ q = k * n ∧ i = .int .i64 (q : Int) ∧ wr.heap[tp]? = some (.cells #[.int .i64 C, .map (some mb)] 118 (0, 0)) ∧ wr.ownsMap Tryz.prog 3 unitElem mb C (stopsD C (everyT q n)) ∧ Keeps (fun k => k = tp ∨ k = mb) w wr) (fun i _ => C - (intOf i).toNat)
   case atStart => exact ⟨1, n, Nat.le_refl _, (Nat.one_mul n).symm, rfl, HTP1.out, by rw [HS.out]; exact HO1.out.mono (Nat.zero_le _), HK1.out⟩
   case round =>
    obtain ⟨k, q, hk, hq, rfl, htp, hown, hkp⟩ := hrel
    have h0 : wr.cell? ⟨tp, 0, none⟩ = some (.int .i64 (C : Int)) := cell_row htp 0
    have h1 : wr.cell? ⟨tp, 1, none⟩ = some (.map (some mb)) := cell_row htp 1
    have HTR := Lib.hid htp
    have HKR := Lib.hid hkp
    have HQ := Lib.hid hq
    clear htp hkp
    by_cases hlt : q < C
    · have hlz : (q : Int) < (C : Int) := by omega
      have hnC : n ≤ q := by rw [hq]; exact Nat.le_mul_of_pos_left n hk
      have hwr : IntKind.i64.wrap ((q : Int) + (n : Int)) = ((q + n : Nat) : Int) := by rw [wrap_in (by omega) (by omega)]; push_cast; rfl
      clear hq
      have hkey : keyOf Tryz.prog 3 (.int .i64 (q : Int)) = some (.int .i64 (q : Int)) := keyOf_int_mk Tryz.underlying3 (WalkArith.wf_i64 (by omega))
      go_wp2_with (at_mapUpdate; refine wpList_mapUpdate_in _ rfl _ _ _ 116 rfl 3 121 keyed_int Tryz.underlying116 _ mb C _ rfl hown (by unfold maxLen; omega) _ _ _ rfl rfl hkey _ [] hu ?_; intro w2 hown2 hturn2)
      have hput := stops_put hlt (hown2.canon keyed_int)
      have hq1 : q + n = (k + 1) * n := by rw [HQ.out, Nat.succ_mul]
      have hD : (stopsD C (everyT q n)).put (.int .i64 (q : Int)) (.agg []) = stopsD C (everyT (q + n) n) := by
       rw [hput, hq1, HQ.out]
       exact every_step C n k hp hk
      rw [hD] at hown2
      exact ⟨⟨k + 1, q + n, by omega, hq1, by push_cast; rfl, (turned_other hturn2 HNE.out).trans HTR.out, owns_shrink hown2 (stops_size _ _), HKR.out.trans (turned_keeps hturn2 (.inr rfl)) (fun k hk => .inl hk)⟩, by simp [intOf]; omega⟩
    · have hge : (C : Int) ≤ (q : Int) := by omega
      have HEND := Lib.hid (HKE.out wr C _ (by rw [HQ.out]; exact every_done C n k (by rw [← HQ.out]; omega)) HTR.out hown HKR.out)
      clear hq hown
      go_wp2_with fail
      go_ret
      exact ⟨rfl, HEND.out⟩
theorem tevery_no (tp : Nat) (n : Int) (w : World) (hn : n < 0) :
 Calls Tryz.prog 57 #[.pointer (some ⟨tp, 0, none⟩), .int .i64 n] w fun e w' => e = .returned (.int .i64 1) ∧ w' = w := by
 go_enter Tryz.func57, Tryz.ntmps57
 go_wp2_with fail
 go_ret
 exact ⟨rfl, rfl⟩
end
section
attribute [local go_sem] alloc_drewN setCell_drewN World.cell?_alloc_some frozen_alloc_some size_f0 size_f1
theorem ScrAt.tabsTo {w w' : World} {sp gp tp mb : Nat} {FG : Nat → Prop} {S : Vz.Sr} {T' : Nat → Bool} (h : ScrAt w sp gp tp mb FG S) (ht : TabsTo w w' tp mb S.D.C T') : ScrAt w' sp gp tp mb FG { S with T := T' } := by
 obtain ⟨h1, hK⟩ := ht
 have hno : ∀ k, k < w.heap.size → k ≠ tp → k ≠ mb → w'.heap[k]? = w.heap[k]? := fun k hk h1 h2 => hK.block k hk (fun e => e.elim h1 h2)
 have hb := h.blk
 exact ⟨(hno sp (h.lt (.inl rfl)) h.spt h.spm).trans h.box, h.grid.of_blocks fun k hk => hno k (h.grid.lt k hk) (fun e => h.ntp (e ▸ hk)) (fun e => h.nmb (e ▸ hk)), h1, h.here, h.nsp, h.ntp, h.nmb, h.spt, h.spm, h.tpm, h.blk.of_block (hno _ h.blk.lt (fun e => h.nbl tp (.inr (.inl rfl)) e.symm) (fun e => h.nbl mb (.inr (.inr (.inl rfl))) e.symm)), h.nbl⟩
theorem Scr.tabsTo {w w0 w' : World} {sp gp tp mb : Nat} {FG F : Nat → Prop} {S : Vz.Sr} {T' : Nat → Bool} (h : ScrAt w sp gp tp mb FG S) (hF : ∀ k, F k ↔ footS sp tp mb FG k) (hb : Below w.heap.size w w0) (ht : TabsTo w0 w' tp mb S.D.C T') : ScrTo w w' sp F { S with T := T' } := by
 have h0 := h.below hb
 refine ⟨⟨F, ⟨gp, tp, mb, FG, h0.tabsTo ht, hF⟩, fun k hk => .inl hk⟩, ?_⟩
 refine (Keeps.of_below hb).trans (Keeps.mono ht.2 ?_) (fun k hk => .inl hk)
 rintro k (rfl | rfl)
 · exact (hF _).2 (.inr (.inl rfl))
 · exact (hF _).2 (.inr (.inr (.inl rfl)))
def stopS (S : Vz.Sr) (c : Int) (on : Bool) : Vz.Sr := if 0 ≤ c ∧ c < S.D.C then { S with T := setT S.T c.toNat on } else S
theorem scr_stop (sp : Nat) (F : Nat → Prop) (S : Vz.Sr) (c : Int) (on : Bool) (w : World) (h : Scr w sp F S) : Calls Tryz.prog 111 #[.pointer (some ⟨sp, 0, none⟩), .int .i64 c, .bool on] w fun e w' => e = .returned (.tuple #[]) ∧ ScrTo w w' sp F (stopS S c on) := by
 have hS := h
 obtain ⟨gp, tp, mb, FG, hA, hF, HC, hlt⟩ := h.held
 obtain ⟨m1, m2, m3, m4⟩ := hA.grid.may
 have hnb := below1 w (.cells #[.int .i64 c] 3)
 have hcs : (w.alloc (.cells #[.int .i64 c] 3)).cell? ⟨w.heap.size, 0, none⟩ = some (.int .i64 c) := cell_row (heap_alloc_new w _) 0
 have htb := hA.tabs.below hnb
 obtain ⟨c0, c1, c2, c3, c4, _⟩ := HC.out _ (Below.refl _ _)
 by_cases hc : 0 ≤ c ∧ c < S.D.C
 · obtain ⟨k, rfl⟩ := Int.eq_ofNat_of_zero_le hc.1
   have hk : k < S.D.C := by omega
   have HP := Lib.hid (tput_in tp mb S.D.C k 1 w.heap.size S.T on _ htb m4 hk hcs (by have := hA.tabs.lt.2; omega) (by simp))
   have HE : Hid (∀ w', TabsTo (w.alloc (.cells #[.int .i64 (k : Int)] 3)) w' tp mb S.D.C (setT S.T k on) → ScrTo w w' sp F (stopS S k on)) := fun w' ht => by
    unfold stopS
    rw [if_pos hc]
    exact Scr.tabsTo hA hF hnb ht
   clear hA hF h hS htb hcs hc
   go_enter Tryz.func111, Tryz.ntmps111
   go_wp2_with (go_at_call 136; refine HP.out.mono ?_; rintro e w2 ⟨rfl, ht⟩; have HT := Lib.hid ht; clear ht)
   go_end0
   exact ⟨rfl, HE.out _ HT.out⟩
 · have HP := Lib.hid (tput_out tp mb S.D.C 1 w.heap.size c S.T on _ htb (by omega) hcs (by simp))
   have HE : Hid (∀ w', Below (w.alloc (.cells #[.int .i64 c] 3)).heap.size (w.alloc (.cells #[.int .i64 c] 3)) w' → ScrTo w w' sp F (stopS S c on)) := fun w' ht => by
    unfold stopS
    rw [if_neg hc]
    exact (ScrTo.refl hS).later (Below.later hnb ht hnb.size)
   clear hA hF h hS htb hcs hc
   go_enter Tryz.func111, Tryz.ntmps111
   go_wp2_with (go_at_call 136; refine HP.out.mono ?_; rintro e w2 ⟨rfl, ht⟩; have HT := Lib.hid ht; clear ht)
   go_end0
   exact ⟨rfl, HE.out _ HT.out⟩
def stopsS (S : Vz.Sr) (n : Int) : Vz.Sr := if n < 0 then S else { S with T := everyT S.D.C n.toNat }
theorem scr_stops (sp : Nat) (F : Nat → Prop) (S : Vz.Sr) (n : Int) (w : World) (h : Scr w sp F S) (hn : n < 9223372036854775808) : Calls Tryz.prog 34 #[.pointer (some ⟨sp, 0, none⟩), .int .i64 n] w fun e w' => e = .returned (.tuple #[]) ∧ ScrTo w w' sp F (stopsS S n) := by
 have hS := h
 obtain ⟨gp, tp, mb, FG, hA, hF, HC, hlt⟩ := h.held
 obtain ⟨m1, m2, m3, m4⟩ := hA.grid.may
 obtain ⟨c0, c1, c2, c3, c4, _⟩ := HC.out _ (Below.refl _ _)
 by_cases hc : n < 0
 · have HP := Lib.hid (tevery_no tp n w hc)
   have HE : Hid (ScrTo w w sp F (stopsS S n)) := by
    unfold stopsS
    rw [if_pos hc]
    exact ScrTo.refl hS
   clear hA hF h hS
   go_enter Tryz.func34, Tryz.ntmps34
   go_wp2_with (go_at_call 57; refine HP.out.mono ?_; rintro e w2 ⟨rfl, rfl⟩)
   go_end0
   exact ⟨rfl, HE.out⟩
 · obtain ⟨k, rfl⟩ := Int.eq_ofNat_of_zero_le (show 0 ≤ n by omega)
   have HP := Lib.hid (tevery_ok tp mb S.D.C k S.T w hA.tabs m4 (by omega))
   have HE : Hid (∀ w', TabsTo w w' tp mb S.D.C (everyT S.D.C k) → ScrTo w w' sp F (stopsS S k)) := fun w' ht => by
    unfold stopsS
    rw [if_neg hc]
    exact Scr.tabsTo hA hF (Below.refl _ _) ht
   clear hA hF h hS hc
   go_enter Tryz.func34, Tryz.ntmps34
   go_wp2_with (go_at_call 57; refine HP.out.mono ?_; rintro e w2 ⟨rfl, ht⟩; have HT := Lib.hid ht; clear ht)
   go_end0
   exact ⟨rfl, HE.out _ HT.out⟩
theorem scr_listed (sp : Nat) (F : Nat → Prop) (S : Vz.Sr) (w : World) (h : Scr w sp F S) : Calls Tryz.prog 43 #[.pointer (some ⟨sp, 0, none⟩)] w fun e w' => ∃ v : Value, e = .returned v ∧
 w'.ownsRow w.heap.size 3 1 v (stopsI S.D.C S.T).length ((stopsI S.D.C S.T).map (Value.int .i64)) ∧ (v = .slice none 0 0 ↔ stopsI S.D.C S.T = []) ∧ Below w.heap.size w w' := by
 obtain ⟨gp, tp, mb, FG, hA, hF, HC, hlt⟩ := h.held
 obtain ⟨m1, m2, m3, m4⟩ := hA.grid.may
 obtain ⟨c0, c1, c2, c3, c4, _⟩ := HC.out _ (Below.refl _ _)
 have HL := Lib.hid (tlist_ok tp mb S.D.C S.T w hA.tabs m4)
 clear hA hF h
 go_enter Tryz.func43, Tryz.ntmps43
 go_wp2_with (go_at_call 64; refine HL.out.mono ?_; rintro e w2 ⟨v, rfl, hr⟩; have HR := Lib.hid hr; clear hr)
 go_ret
 exact ⟨v, rfl, HR.out⟩
def tabS (S : Vz.Sr) (n : Int) : Vz.Sr := if n = 0 then S else { S with pl := ⟨Vz.nearP S.D.R S.D.C ⟨S.pl.at_.row, goT S.D.C S.T S.pl.at_.col n⟩, false⟩ }
theorem scr_tab (sp : Nat) (F : Nat → Prop) (S : Vz.Sr) (n : Int) (w : World) (h : Scr w sp F S) (hn : -9223372036854775808 ≤ n ∧ n < 9223372036854775808) : Calls Tryz.prog 79 #[.pointer (some ⟨sp, 0, none⟩), .int .i64 n] w fun e w' => e = .returned (.tuple #[]) ∧ ScrTo w w' sp F (tabS S n) := by
 by_cases hz : n = 0
 · subst hz
   have HE : Hid (ScrTo w w sp F (tabS S 0)) := by
    unfold tabS
    rw [if_pos rfl]
    exact ScrTo.refl h
   clear h
   go_enter Tryz.func79, Tryz.ntmps79
   go_wp2_with fail
   go_end0
   exact ⟨rfl, HE.out⟩
 · obtain ⟨gp, tp, mb, FG, hA, hF, HC, hlt⟩ := h.held
   obtain ⟨m1, m2, m3, m4⟩ := hA.grid.may
   have HG := Lib.hid (fun W (hb : Below w.heap.size w W) => tgo_ok tp mb S.D.C S.T S.pl.at_.col n W (hA.tabs.older hb) ⟨m3, m4⟩ hn hz)
   have HM := Lib.hid (fun W (hb : Below w.heap.size w W) p => scr_move sp F S p W (h.below hb))
   have HE : Hid (tabS S n = { S with pl := ⟨Vz.nearP S.D.R S.D.C ⟨S.pl.at_.row, goT S.D.C S.T S.pl.at_.col n⟩, false⟩ }) := by
    unfold tabS
    rw [if_neg hz]
    rfl
   rw [HE.out]
   clear hA hF h HE
   generalize goT S.D.C S.T S.pl.at_.col n = c at *
   have he : (n == 0) = false := by rw [eqb]; exact decide_eq_false hz
   go_enter Tryz.func79, Tryz.ntmps79
   go_upto_region 1 with fail
   refine wp_region_noPanic ?_
   refine wp_region_k (S := fun W' : World => Below w.heap.size w W') 20 (by kernel_rfl) ((Below.refl _ _).drew) (fun hHeld => ?_)
   refine kSK 0 hHeld ?_
   refine kSK 1 hHeld ?_
   refine kSK 2 hHeld ?_
   refine kSK 3 hHeld ?_
   refine kSK 4 hHeld ?_
   try refine kNK ?_
   refine kSK 5 hHeld ?_
   refine kTK (v := ?_) 6 [19] hHeld ?y7 ?_
   case y7 => (intro W hSw; obtain ⟨c0, c1, c2, c3, c4, _⟩ := HC.out _ hSw; go_simp; try with_reducible rfl)
   refine kSK 7 hHeld ?_
   refine kSK 8 hHeld ?_
   refine kSK 9 hHeld ?_
   try refine kNK ?_
   refine kTK (v := ?_) 10 [18] hHeld ?y11 ?_
   case y11 => (intro W hSw; obtain ⟨c0, c1, c2, c3, c4, _⟩ := HC.out _ hSw; go_simp; try with_reducible rfl)
   refine kSK 11 hHeld ?_
   refine kSK 12 hHeld ?_
   refine kSK 13 hHeld ?_
   refine kSK 14 hHeld ?_
   try refine kNK ?_
   refine kSK 15 hHeld ?_
   refine kTK (v := ?_) 16 [18] hHeld ?y17 ?_
   case y17 => (intro W hSw; obtain ⟨c0, c1, c2, c3, c4, _⟩ := HC.out _ hSw; go_simp; try with_reducible rfl)
   refine kSK 17 hHeld ?_
   try refine kNK ?_
   refine kOK 18 fun KQ hKQ => ?_
   go_simp
   go_at_call 104
   refine (HG.out _ hHeld).mono ?_
   rintro e wa ⟨rfl, hba⟩
   have HBa := Lib.hid (Below.later hHeld hba hHeld.size)
   clear hba
   go_wp2_with fail
   refine hKQ.out _ _ (HBa.out) ?_
   clear hHeld hKQ KQ
   intro hHeld
   try refine kNK ?_
   refine kSK 19 hHeld ?_
   try refine kNK ?_
   refine kPK 20 fun KQ hKQ => ?_
   go_simp
   go_at_call 59
   refine (HM.out _ HBa.out ⟨S.pl.at_.row, c⟩).mono ?_
   rintro e wb ⟨rfl, hg⟩
   have HGG := Lib.hid hg
   clear hg
   go_wp2_with fail
   refine hKQ.out _ _ ?_
   clear hKQ KQ
   try refine kNK ?_
   refine wpAnyK_done (by kernel_rfl) ?_ _
   refine NoPanic.normal ?_
   go_wp2_with fail
   go_end0
   exact ⟨rfl, ScrTo.after HBa.out HGG.out⟩
end
end Go.Proofs.YtncgigapgklhcaaGreatDoor
