/- Walks: the closure of fields that appends numbers to the words. -/
import Derived.Test.YtfkbgnonkgaobaaDoorScrHex
import Derived.Test.YtfkbgnonkgaobaaDoorWords
import Derived.Test.YtfkbgnonkgaobaaDoorShelf
import Derived.Deep.RegionLaw
namespace Go.Proofs.YtfkbgnonkgaobaaDoor
open Go.RowKit
set_option linter.unusedSimpArgs false
set_option linter.unusedVariables false

/-- The table of powers of ten lies there. -/
def PowTab (w : World) : Prop := Lib.TabIs Tryd.prog w "internal/strconv.uint64pow10" .u64 Lib.pow10Tab
theorem gPow : Tryd.prog.globalNamed "internal/strconv.uint64pow10" = some 5 := by kernel_rfl
theorem PowTab.lt {w : World} (h : PowTab w) : 5 < w.heap.size := by
  unfold PowTab Lib.TabIs World.var? at h
  rw [gPow] at h
  simp only [Option.bind_some] at h
  split at h
  · rename_i hh; exact (Array.getElem?_eq_some_iff.1 hh).1
  · cases h
theorem var?_below {P : Program} {B g : Nat} {w w' : World} {nm : String} {cs : Array Value} (hb : Below B w w') (hg : P.globalNamed nm = some g) (hlt : g < B) (h : w.var? P nm = some cs) : w'.var? P nm = some cs := by
  unfold World.var? at h ⊢
  rw [hg] at h ⊢
  simp only [Option.bind_some] at h ⊢
  rw [hb.block _ hlt]
  exact h
theorem PowTab.belowB {B : Nat} {w w' : World} (h : PowTab w) (hlt : 5 < B) (hb : Below B w w') : PowTab w' := var?_below hb gPow hlt h
theorem PowTab.below {w w' : World} (h : PowTab w) (hb : Below w.heap.size w w') : PowTab w' := h.belowB h.lt hb
theorem below_grow0 (w : World) (k : Nat) (os : Array Obj) : Below w.heap.size w (Go.Sort.grow (w.drewN k) os) := by
  refine ⟨rfl, rfl, rfl, ?_, fun i hi => ?_⟩
  · show w.heap.size ≤ (w.heap ++ os).size
    simp
  · show (w.heap ++ os)[i]? = w.heap[i]?
    rw [Array.getElem?_append_left hi]
theorem infoStr : (Tryd.prog.info? 9).map (fun i => (i.zero, i.size, i.bytes)) = some (some (.string ⟨#[]⟩), 1, 16) := by kernel_rfl
def strsV (l : List (List UInt8)) : List Value := l.map fun x => Value.string ⟨x.toArray⟩
theorem itoa_any (n : Nat) (hn : n ≤ 9999) (w : World) (h : PowTab w) :
    Calls Tryd.prog 48 #[.int .i64 n] w fun e w' => e = .returned (.string ⟨(Vz.digN n).toArray⟩) ∧ Below w.heap.size w w' := by
  refine (Tryd.strconv_Itoa n (by omega) (by omega) w h).mono ?_
  rintro e w' ⟨rfl, k, os, rfl⟩
  rw [Lib.itoa_nonneg]
  exact ⟨rfl, below_grow0 w k os⟩
/-- A row of another type is not what the slice owns. -/
theorem ownsRow_ne {W : World} {base : Nat} {e e' : TypeId} {size : Nat} {v : Value} {k : Nat} {xs : List Value} (h : W.ownsRow base e size v k xs) {b : Nat} {cs : Array Value} {fr : Nat × Nat} (hb : W.heap[b]? = some (.cells cs e' fr)) (hne : e ≠ e') : v.ownBlock ≠ some b := by
  rcases h.2 with ⟨rfl, _⟩ | ⟨g, cap, cur, rfl, _, hg, _⟩
  · simp [Value.ownBlock]
  · intro he
    obtain rfl : g = b := by simpa [Value.ownBlock] using he
    rw [hg] at hb
    cases hb
    exact hne rfl
theorem frozen_row {W : World} {g : Nat} {cs : Array Value} {t : TypeId} (h : W.heap[g]? = some (.cells cs t (0, 0))) (i : Nat) : W.frozen? ⟨g, i, none⟩ = false := by
  simp [World.frozen?, h]
theorem heap_set_same {W : World} {g : Nat} {cs : Array Value} {t : TypeId} (h : W.heap[g]? = some (.cells cs t (0, 0))) (i : Nat) (u : Value) : (W.setCell ⟨g, i, none⟩ u).heap[g]? = some (.cells (cs.setIfInBounds i u) t (0, 0)) := by
  simp [World.setCell, Array.getElem?_modify, h]
theorem heap_set_other {W : World} {g k : Nat} (i : Nat) (u : Value) (hne : k ≠ g) : (W.setCell ⟨g, i, none⟩ u).heap[k]? = W.heap[k]? := Below.heap_setCell W ⟨g, i, none⟩ u k hne

/-- A box that holds the words so far. -/
def OutAt (base gb : Nat) (S : List (List UInt8)) (W : World) : Prop :=
  base ≤ gb ∧ ∃ v, W.heap[gb]? = some (.cells #[v] 64 (0, 0)) ∧ W.ownsRow base 9 1 v S.length (strsV S)
theorem OutAt.lt {base gb : Nat} {S : List (List UInt8)} {W : World} (h : OutAt base gb S W) : gb < W.heap.size := by
  obtain ⟨_, v, h, _⟩ := h
  exact (Array.getElem?_eq_some_iff.1 h).1
theorem OutAt.below {base gb : Nat} {S : List (List UInt8)} {W W' : World} (h : OutAt base gb S W) (hb : Below W.heap.size W W') : OutAt base gb S W' := by
  have hlt := h.lt
  obtain ⟨h0, v, hg, hown⟩ := h
  exact ⟨h0, v, (hb.block _ hlt).trans hg, ownsRow_keep hown hb⟩
/-- One word more is put into the box, behind an append. -/
theorem OutAt.put {base gb : Nat} {S : List (List UInt8)} {D : List UInt8} {W w3 : World} {v v' : Value} (h0 : base ≤ gb) (hg : W.heap[gb]? = some (.cells #[v] 64 (0, 0))) (hown : W.ownsRow base 9 1 v S.length (strsV S))
    (hown' : w3.ownsRow base 9 1 v' (S.length + 1) (strsV S ++ [.string ⟨D.toArray⟩])) (hgrow : W.grownBy w3 v.ownBlock) : OutAt base gb (S ++ [D]) (w3.setCell ⟨gb, 0, none⟩ v') := by
  have hlt := (Array.getElem?_eq_some_iff.1 hg).1
  have hg3 : w3.heap[gb]? = some (.cells #[v] 64 (0, 0)) := (hgrow.block gb hlt (fun e => ownsRow_ne hown hg (by decide) e.symm)).trans hg
  refine ⟨h0, v', heap_set_same hg3 0 v', ?_⟩
  have hl : (S ++ [D]).length = S.length + 1 := by simp
  have hs : strsV (S ++ [D]) = strsV S ++ [.string ⟨D.toArray⟩] := by simp [strsV]
  rw [hl, hs]
  exact hown'.kept (row := some gb) ⟨rfl, rfl, rfl, by simp [World.setCell], fun k _ hk => Below.heap_setCell _ _ _ _ (fun e => hk (by simp [e]))⟩ (Or.inr (ownsRow_ne hown' hg3 (by decide)))

theorem cell_alloc_all {W : World} {p : Addr} {v : Value} (h : W.cell? p = some v) (o : Obj) : (W.alloc o).cell? p = some v := (World.cell?_alloc_lt _ _ _ (World.block_lt_of_cell? W p h)).trans h
/-- A row of another type stands behind the append, and behind the put. -/
theorem row_grown {base b : Nat} {W w2 w3 : World} {v : Value} {k : Nat} {xs : List Value} {cs : Array Value} {t : TypeId} {o : Obj} (hown : W.ownsRow base 9 1 v k xs) (hb : W.heap[b]? = some (.cells cs t (0, 0))) (hne : 9 ≠ t) (hb2 : Below W.heap.size W w2) (hgrow : (w2.alloc o).grownBy w3 v.ownBlock) : w3.heap[b]? = some (.cells cs t (0, 0)) := by
  have hlt : b < W.heap.size := (Array.getElem?_eq_some_iff.1 hb).1
  have h2 := hb2.size
  rw [hgrow.block b (by rw [World.size_alloc]; omega) (fun e => ownsRow_ne hown hb hne e.symm), Below.heap_alloc w2 _ _ (by omega), hb2.block _ hlt]
  exact hb
theorem box_facts {base gb : Nat} {W w2 w3 : World} {v : Value} {k : Nat} {xs : List Value} {o : Obj} (hown : W.ownsRow base 9 1 v k xs) (hb : W.heap[gb]? = some (.cells #[v] 64 (0, 0))) (hb2 : Below W.heap.size W w2) (hgrow : (w2.alloc o).grownBy w3 v.ownBlock) :
    w3.heap[gb]? = some (.cells #[v] 64 (0, 0)) ∧ w3.cell? ⟨gb, 0, none⟩ = some v ∧ w3.frozen? ⟨gb, 0, none⟩ = false := by
  have hg3 := row_grown hown hb (by decide) hb2 hgrow
  exact ⟨hg3, by rw [cell_of_row w3 gb 0 _ _ _ hg3]; rfl, frozen_row hg3 0⟩
def digsOf (L : List Int) : List (List UInt8) := L.map fun x => Vz.digN x.toNat

set_option maxRecDepth 100000 in
set_option maxHeartbeats 1000000 in
theorem number_any (base gb bi : Nat) (S : List (List UInt8)) (L : List Int) (w : World) (h : OutAt base gb S w) (hI : w.heap[bi]? = some (.cells (L.map (Value.int .i64)).toArray 3 (0, 0))) (hL : ∀ x ∈ L, Vz.small x 9999 = true) (hn : L.length ≤ 10) (hS : S.length ≤ 100) (hbase : base ≤ w.heap.size) (ht : PowTab w) (hpb : 5 < base) :
    Calls Tryd.prog 47 #[.slice (some ⟨bi, 0, none⟩) L.length L.length, .pointer (some ⟨gb, 0, none⟩)] w fun e w' => (∃ v, e = .returned v) ∧ OutAt base gb (S ++ digsOf L) w' ∧ Below base w w' := by
  obtain ⟨i0, hi, hz0, hz1, hz2⟩ := info_parts infoStr
  have HIT := Lib.hid itoa_any
  have hbi : bi < w.heap.size := (Array.getElem?_eq_some_iff.1 hI).1
  have hpl := ht.lt
  have HH := Lib.hid h
  have HI := Lib.hid hI
  have HL := Lib.hid hL
  have HT := Lib.hid ht
  clear h hI hL ht
  go_enter Tryd.func47, Tryd.ntmps47
  go_wp2_with fail
  go_loopw [7] (fun i wr => ∃ k : Nat, k ≤ L.length ∧ i = .int .i64 k ∧ OutAt base gb (S ++ digsOf (L.take k)) wr ∧ wr.heap[bi]? = some (.cells (L.map (Value.int .i64)).toArray 3 (0, 0)) ∧ Below base w wr) (fun i _ => L.length - (intOf i).toNat)
  case atStart => exact ⟨0, Nat.zero_le _, rfl, by simpa [digsOf] using HH.out, HI.out, Below.refl _ _⟩
  case round =>
    obtain ⟨k, hk, rfl, hout, hrow, hB⟩ := hrel
    have hpow := HT.out.belowB hpb hB
    by_cases hlt : k < L.length
    · have hc : wr.cell? ⟨bi, k, none⟩ = some (.int .i64 (L[k]'hlt)) := by
        rw [cell_of_row wr bi k _ _ _ hrow]
        simp [hlt]
      obtain ⟨x, hx⟩ : ∃ x, L[k]'hlt = x := ⟨_, rfl⟩
      have hxs := HL.out x (by rw [← hx]; exact List.getElem_mem hlt)
      rw [hx] at hc
      have hxn : 0 ≤ x ∧ x ≤ 9999 := by unfold Vz.small at hxs; simpa using hxs
      obtain ⟨n, rfl⟩ := Int.eq_ofNat_of_zero_le hxn.1
      have hn9 : n ≤ 9999 := by omega
      have hS2 : (S ++ digsOf (L.take k)).length ≤ 200 := by simp [digsOf]; omega
      have hT : S ++ digsOf (L.take (k + 1)) = (S ++ digsOf (L.take k)) ++ [Vz.digN n] := by
        rw [List.take_add_one, List.getElem?_eq_getElem hlt, hx]
        simp [digsOf]
      have HTT := Lib.hid hT
      clear hT hx hxs hxn
      generalize S ++ digsOf (L.take k) = S' at hout hS2 HTT
      have hgl := hout.lt
      obtain ⟨hb0, v, hg, hown⟩ := hout
      have HG := Lib.hid hg
      have HO := Lib.hid hown
      have HR := Lib.hid hrow
      have HP : Hid (PowTab wr.drew) := hpow
      obtain ⟨va, vc, rfl⟩ := ownsRow_sl hown
      have hcb : wr.cell? ⟨gb, 0, none⟩ = some (.slice va S'.length vc) := by rw [cell_of_row wr gb 0 _ _ _ hg]; rfl
      have hbs := hB.size
      clear hg hown hrow hpow
      go_upto_region 3 with fail
      go_region_law (first
        | (go_simp; go_at_call 48; refine (HIT.out n hn9 wr.drew HP.out).mono ?_; rintro e w2 ⟨rfl, hb2⟩; have o2 := ownsRow_keep (W := wr.drew) HO.out hb2; have hcb2 := (hb2.cell (p := ⟨gb, 0, none⟩) hgl).trans hcb; have hcb3 := cell_alloc_all hcb2; go_wp2_with fail)
        | (rw [if_pos (by rfl)]; refine wp_append_own _ (.tmp 11) (.tmp 14) 64 rfl base 9 i0 (.string ⟨#[]⟩) 1 16 Tryd.underlying64 hi hz0 hz1 hz2 rfl (by decide) _ _ _ rfl (o2.alloc _) ⟨w2.heap.size, 0, none⟩ 1 1 [.string ⟨(Vz.digN n).toArray⟩] rfl rfl (cell_one_new _ _ _) (by simp [Value.oneCell']) (by unfold maxLen; omega) (by omega) (by have := hb2.size; simp at this ⊢; omega) ?_; intro v' w3 hown' hgrow _; obtain ⟨va', vc', rfl⟩ := ownsRow_sl hown'; have hbx := box_facts (W := wr.drew) HO.out HG.out hb2 hgrow; obtain ⟨hg3, hc3, hf3⟩ := hbx))
      all_goals
        go_wp2_with fail
        have hr3 := row_grown (W := wr.drew) HO.out HR.out (by decide) hb2 hgrow
        have hne : bi ≠ gb := fun e => by
          subst e
          rw [hg3] at hr3
          injection hr3 with hr3
          injection hr3 with _ ht
          exact absurd ht (by decide)
        have hb2s := hb2.size
        have hbA : Below w2.heap.size w2 (w2.alloc (.cells #[.string ⟨(Vz.digN n).toArray⟩] 9)) := (Below.refl _ _).alloc (Nat.le_refl _) _
        refine ⟨⟨k + 1, by omega, by go_num, ?_, ?_, ?_⟩, by simp [intOf]; omega⟩
        · rw [HTT.out]
          exact OutAt.put hb0 ((hbA.block _ (by simp at hb2s; omega)).trans ((hb2.block _ hgl).trans HG.out)) (ownsRow_keep (ownsRow_keep (W := wr.drew) HO.out hb2) hbA) hown' hgrow
        · rw [heap_set_other 0 _ hne]
          exact hr3
        · refine (((hB.drew.trans (hb2.mono (Nat.le_trans hbase hbs))).alloc (by simp at hb2s; omega) _).grown hgrow (by simp at hb2s ⊢; omega) (fun j e => ownsRow_bs HO.out e)).setCell (p := ⟨gb, 0, none⟩) hb0 _
    · obtain rfl : k = L.length := by omega
      rw [List.take_length] at hout
      go_wp2_with fail
      go_end0
      exact ⟨⟨_, rfl⟩, hout, hB⟩
end Go.Proofs.YtfkbgnonkgaobaaDoor
