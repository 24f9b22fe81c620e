import Derived.Test.YtncgigapgklhcaaGreatDoorHD
import Derived.Test.YtncgigapgklhcaaGreatDoorHC
import Derived.Deep.DeepAppendRoom
import Derived.Laws.MakeOwn

set_option maxRecDepth 100000
set_option maxHeartbeats 16000000
namespace Go.Proofs.YtncgigapgklhcaaGreatDoor
open Go.RowKit
set_option linter.unusedSimpArgs false
set_option linter.unusedVariables false
/- Walks: rows that move (grid.moved at rows), a fresh row. -/
section
attribute [local go_sem] alloc_drewN setCell_drewN World.cell?_alloc_some frozen_alloc_some
def FreshRow (w : World) (v : Nat) (caps : Array Value) (x : Vz.Cl) (C : Nat) : Prop :=
 ∀ W, Below w.heap.size w W → Calls Tryz.prog v caps W fun e w' => ∃ r, e = .returned (.slice (some ⟨r, 0, none⟩) C C) ∧ W.heap.size ≤ r ∧ RowC w' r 56 (C * 4) (C * 4) (Vz.flatC fun _ => x) ∧ Below W.heap.size W w'
theorem fresh_any (bx bg gp : Nat) (x : Vz.Cl) (F : Nat → Prop) (D : Vz.Gd) (w : World) (h : Grid w gp F D) (hx : w.heap[bx]? = some (.cells (cellB x) 56 (0, 0))) (hg : w.cell? ⟨bg, 0, none⟩ = some (.pointer (some ⟨gp, 0, none⟩))) :
 FreshRow w 166 #[.pointer (some ⟨bx, 0, none⟩), .pointer (some ⟨bg, 0, none⟩)] x D.C := by
 intro W hW
 obtain ⟨B, cap, G, K, h, hF⟩ := h
 obtain ⟨m1, m2, m3, m4⟩ := h.may
 have hbg := World.block_lt_of_cell? w _ hg
 have hc1 := h.head
 have hc2 := h.line (i := 0) m1
 have hgp := World.block_lt_of_cell? w _ hc1
 have hBl := World.block_lt_of_cell? w _ hc2
 have HC : Hid (∀ W', Below W.heap.size W W' → (W'.cell? ⟨bx, 0, none⟩ = some (.int .i32 x.g) ∧ W'.cell? ⟨bx, 1, none⟩ = some (.int .i64 x.a) ∧ W'.cell? ⟨bx, 2, none⟩ = some (.bool x.gd) ∧ W'.cell? ⟨bx, 3, none⟩ = some (.int .i64 x.m)) ∧ W'.cell? ⟨bg, 0, none⟩ = some (.pointer (some ⟨gp, 0, none⟩)) ∧ W'.cell? ⟨gp, 0, none⟩ = some (.slice (some ⟨B, 0, none⟩) D.R cap) ∧ W'.cell? ⟨B, 0, none⟩ = some (.slice (some ⟨G 0, 0, none⟩) D.C (K 0))) := fun W' hb => by
  have hb' := Below.later hW hb hW.size
  have hx' := (hb'.block _ (block_lt hx)).trans hx
  exact ⟨cell4 hx', (hb'.cell (p := ⟨bg, 0, none⟩) hbg).trans hg, (hb'.cell (p := ⟨gp, 0, none⟩) hgp).trans hc1, (hb'.cell (p := ⟨B, 0, none⟩) hBl).trans hc2⟩
 have hi1 : 0 < D.R := m1
 have HD : Hid (Below W.heap.size W W.drew) := (Below.refl _ _).drew
 have HR : Hid (∀ W', Below W.heap.size W W' → RowC (W'.alloc (.cells (cellB x) 56)) W'.heap.size 56 4 4 (Vz.flatC fun _ => x)) := fun W' _ => cellB_row (heap_alloc_new W' _)
 clear hW hx hg hc1 hc2 h
 unfold cellB at HR
 go_enter Tryz.func166, Tryz.ntmps166
 go_upto_region 1 with fail
 refine wp_region_noPanic ?_
 refine wp_region_k (S := fun W' : World => Below W.heap.size W W') 9 (by kernel_rfl) (HD.out) (fun hHeld => ?_)
 refine kTK (v := ?_) 0 [1] hHeld ?y1 ?_
 case y1 => (intro W hSw; obtain ⟨⟨q0, q1, q2, q3⟩, q4, q5, q6⟩ := HC.out _ hSw; go_simp; try with_reducible rfl)
 refine kTK (v := ?_) 2 [8, 7, 6, 5, 4, 3] hHeld ?y2 ?_
 case y2 => (intro W hSw; obtain ⟨⟨q0, q1, q2, q3⟩, q4, q5, q6⟩ := HC.out _ hSw; go_simp; try with_reducible rfl)
 refine kSK 3 hHeld ?_
 refine kSK 4 hHeld ?_
 refine kTK (v := ?_) 5 [8, 7, 6] hHeld ?y5 ?_
 case y5 => (intro W hSw; obtain ⟨⟨q0, q1, q2, q3⟩, q4, q5, q6⟩ := HC.out _ hSw; go_simp; try with_reducible rfl)
 try refine kNK ?_
 refine kSK 6 hHeld ?_
 refine kTK (v := ?_) 7 [8] hHeld ?y7 ?_
 case y7 => (intro W hSw; obtain ⟨⟨q0, q1, q2, q3⟩, q4, q5, q6⟩ := HC.out _ hSw; go_simp; try with_reducible rfl)
 refine kSK 8 hHeld ?_
 try refine kNK ?_
 refine kOK 1 fun KQ hKQ => ?_
 go_simp
 refine hKQ.out _ _ (hHeld.alloc hHeld.size _) ?_
 clear hHeld hKQ KQ
 intro hHeld
 try refine kNK ?_
 refine kPK 9 fun KQ hKQ => ?_
 go_simp
 go_at_call 75
 refine (repeat_any _ 4 x D.C m3 m4 _ (HR.out _ HD.out)).mono ?_
 rintro e w3 ⟨g, rfl, hg3, hr3, hb3⟩
 go_wp2_with fail
 refine hKQ.out _ _ ?_
 clear hKQ KQ
 try refine kNK ?_
 refine kBK 10 ?_
 try refine kNK ?_
 refine wpAnyK_done (by kernel_rfl) ?_ _
 refine NoPanic.normal ?_
 go_wp2_with fail
 go_ret
 refine ⟨g, rfl, Nat.le_trans ?_ hg3, hr3, Below.later HD.out (box1 hb3).2 (Nat.le_refl _)⟩
 rw [World.size_alloc]
 exact Nat.le_succ _
theorem make_rows (m : Nat) (h2 : m ≤ 255) : ∃ c0 : Array Value, c0.size = m ∧ ∀ W : World, Sem.run Tryz.prog (Instr.makeSlice 52 (.int .i64 0) (.int .i64 (m : Int))) W = .ok (.slice (some ⟨W.heap.size, 0, none⟩) 0 m) (W.alloc (.cells c0 54)) := by
 obtain ⟨i, hi, hz, hs, hb⟩ := info_three infoRow
 refine ⟨madeCells (Value.slice none 0 0).cells (m * 1), by simpa using size_madeCells _ (m * 1), fun W => ?_⟩
 have := run_make (P := Tryz.prog) W 52 54 i _ Tryz.underlying52 hi hz .i64 .i64 0 m (by omega) (by omega) (by rw [hb]; omega) (by omega)
 rw [hs] at this
 simpa using this
def newAt (m : Nat) (n : Int) (i : Nat) : Bool := decide ((m : Int) - 1 - i < n) || decide (n < -(i : Int))
def movedV (m : Nat) (n : Int) (C : Nat) (src : Nat → Value) (G' : Nat → Nat) (i : Nat) : Value := if newAt m n i = true then .slice (some ⟨G' i, 0, none⟩) C C else src ((i : Int) + n).toNat
structure MovInv (w : World) (m : Nat) (n : Int) (C : Nat) (x : Vz.Cl) (src : Nat → Value) (i : Nat) (G' : Nat → Nat) (W : World) : Prop where
 own : W.ownsRow w.heap.size 54 1 (.slice (some ⟨w.heap.size, 0, none⟩) i m) i ((List.range i).map (movedV m n C src G'))
 row : ∀ j, j < i → newAt m n j = true → RowC W (G' j) 56 (C * 4) (C * 4) (Vz.flatC fun _ => x)
 ge : ∀ j, j < i → newAt m n j = true → w.heap.size < G' j
 inj : ∀ j k, j < i → k < i → newAt m n j = true → newAt m n k = true → G' j = G' k → j = k
 le : Below w.heap.size w W
theorem MovInv.zero (w : World) (m : Nat) (n : Int) (C : Nat) (x : Vz.Cl) (src : Nat → Value) (c0 : Array Value) (hm : m ≤ 255) (hc : c0.size = m) : MovInv w m n C x src 0 (fun _ => 0) (w.alloc (.cells c0 54)) :=
 ⟨World.ownsRow_made w c0 m (Nat.le_refl _) (by unfold maxLen; omega) (by omega), fun j hj => absurd hj (Nat.not_lt_zero _), fun j hj => absurd hj (Nat.not_lt_zero _), fun j k hj => absurd hj (Nat.not_lt_zero _), below1 _ _⟩
theorem range_succ_map {α : Type} (f f' : Nat → α) (i : Nat) (h : ∀ j, j < i → f' j = f j) : (List.range (i + 1)).map f' = (List.range i).map f ++ [f' i] := by
 rw [List.range_succ, List.map_append]
 congr 1
 exact List.map_congr_left fun j hj => h j (List.mem_range.1 hj)
theorem grown_row {W W' : World} {base g n cap : Nat} {e t : TypeId} {size : Nat} {xs : List Value} {b cp m : Nat} {f : Nat → Value} (ho : W.ownsRow base e size (.slice (some ⟨g, 0, none⟩) n cap) n xs) (hg : W.grownBy W' (some g)) (hr : RowC W b t cp m f) (ht : t ≠ e) : RowC W' b t cp m f := by
 obtain ⟨c, hb, rest⟩ := hr
 refine ⟨c, (hg.block b (block_lt hb) (fun e' => ?_)).trans hb, rest⟩
 exact own_not ho hb ht (by simpa [Value.ownBlock] using e'.symm)
theorem MovInv.old {w : World} {m : Nat} {n : Int} {C : Nat} {x : Vz.Cl} {src : Nat → Value} {i : Nat} {G' : Nat → Nat} {W W' : World} {o : Obj} (h : MovInv w m n C x src i G' W) (hn : newAt m n i = false)
 (hown : W'.ownsRow w.heap.size 54 1 (.slice (some ⟨w.heap.size, 0, none⟩) (i + 1) m) (i + 1) ((List.range i).map (movedV m n C src G') ++ [src ((i : Int) + n).toNat])) (hg : (W.alloc o).grownBy W' (some w.heap.size)) : MovInv w m n C x src (i + 1) G' W' := by
 have own1 := h.own.alloc o
 refine ⟨?_, fun j hj hnj => ?_, fun j hj hnj => ?_, fun j k hj hk hnj hnk => ?_, ?_⟩
 · rw [range_succ_map _ (movedV m n C src G') i (fun _ _ => rfl)]
   have : movedV m n C src G' i = src ((i : Int) + n).toNat := by unfold movedV; simp [hn]
   rw [this]
   exact hown
 · have : j < i := by
    rcases Nat.lt_or_ge j i with h | h
    · exact h
    · obtain rfl : j = i := by omega
      rw [hn] at hnj
      cases hnj
   exact grown_row own1 hg ((h.row j this hnj).below (below1 _ _)) (by decide)
 · have : j < i := by
    rcases Nat.lt_or_ge j i with h | h
    · exact h
    · obtain rfl : j = i := by omega
      rw [hn] at hnj
      cases hnj
   exact h.ge j this hnj
 · have hj' : j < i := by
    rcases Nat.lt_or_ge j i with h | h
    · exact h
    · obtain rfl : j = i := by omega
      rw [hn] at hnj
      cases hnj
   have hk' : k < i := by
    rcases Nat.lt_or_ge k i with h | h
    · exact h
    · obtain rfl : k = i := by omega
      rw [hn] at hnk
      cases hnk
   exact h.inj j k hj' hk' hnj hnk
 · have hs : w.heap.size ≤ W.heap.size := h.le.size
   exact (h.le.alloc hs o).grown hg (by rw [World.size_alloc]; omega) (fun k e => by injection e with e; omega)
theorem MovInv.new {w : World} {m : Nat} {n : Int} {C : Nat} {x : Vz.Cl} {src : Nat → Value} {i : Nat} {G' : Nat → Nat} {W w3 W' : World} {o : Obj} {r : Nat} (h : MovInv w m n C x src i G' W) (hn : newAt m n i = true)
 (hb : Below W.heap.size W w3) (hr : W.heap.size ≤ r) (hrow : RowC w3 r 56 (C * 4) (C * 4) (Vz.flatC fun _ => x))
 (hown : W'.ownsRow w.heap.size 54 1 (.slice (some ⟨w.heap.size, 0, none⟩) (i + 1) m) (i + 1) ((List.range i).map (movedV m n C src G') ++ [.slice (some ⟨r, 0, none⟩) C C])) (hg : (w3.alloc o).grownBy W' (some w.heap.size)) :
 MovInv w m n C x src (i + 1) (fun j => if j = i then r else G' j) W' := by
 have own3 : w3.ownsRow w.heap.size 54 1 (.slice (some ⟨w.heap.size, 0, none⟩) i m) i ((List.range i).map (movedV m n C src G')) := own_below h.own hb
 have own4 := own3.alloc o
 have hlt : w.heap.size < W.heap.size := (h.own.lt w.heap.size rfl).2
 refine ⟨?_, fun j hj hnj => ?_, fun j hj hnj => ?_, fun j k hj hk hnj hnk => ?_, ?_⟩
 · rw [range_succ_map (movedV m n C src G') _ i (fun j hj => by unfold movedV; simp [show j ≠ i by omega])]
   have : movedV m n C src (fun j => if j = i then r else G' j) i = .slice (some ⟨r, 0, none⟩) C C := by unfold movedV; simp [hn]
   rw [this]
   exact hown
 · split
   · exact grown_row own4 hg (hrow.below (below1 _ _)) (by decide)
   · exact grown_row own4 hg (((h.row j (by omega) hnj).below hb).below (below1 _ _)) (by decide)
 · split
   · omega
   · exact h.ge j (by omega) hnj
 · have hG : ∀ j, j < i → newAt m n j = true → G' j < W.heap.size := fun j hj hnj => (h.row j hj hnj).lt
   split <;> split
   · intro _; omega
   · intro e; have := hG k (by omega) hnk; omega
   · intro e; have := hG j (by omega) hnj; omega
   · exact h.inj j k (by omega) (by omega) hnj hnk
 · have hs : w.heap.size ≤ W.heap.size := h.le.size
   have hs3 : W.heap.size ≤ w3.heap.size := hb.size
   exact ((Below.later h.le hb hs).alloc (by omega) o).grown hg (by rw [World.size_alloc]; omega) (fun k e => by injection e with e; omega)
theorem newAt_old {m : Nat} {n : Int} {i : Nat} (h : newAt m n i = false) (hi : i < m) : ∃ j : Nat, (i : Int) + n = j ∧ j < m ∧ decide ((m : Int) - 1 - i < n) = false ∧ decide (n < -(i : Int)) = false := by
 unfold newAt at h
 rw [Bool.or_eq_false_iff] at h
 have h1 : ¬ ((m : Int) - 1 - i < n) := by simpa using h.1
 have h2 : ¬ (n < -(i : Int)) := by simpa using h.2
 exact ⟨((i : Int) + n).toNat, by omega, by omega, h.1, h.2⟩
theorem newAt_new {m : Nat} {n : Int} {i : Nat} (h : newAt m n i = true) : decide ((m : Int) - 1 - i < n) = true ∨ (decide ((m : Int) - 1 - i < n) = false ∧ decide (n < -(i : Int)) = true) := by
 unfold newAt at h
 cases h1 : decide ((m : Int) - 1 - i < n)
 · rw [h1, Bool.false_or] at h
   exact .inr ⟨rfl, h⟩
 · exact .inl rfl
theorem moved_rows (B o m mc bx bg : Nat) (n : Int) (x : Vz.Cl) (C : Nat) (Gs Ks : Nat → Nat) (w : World) (hm : m ≤ 255) (hn : -100000 ≤ n ∧ n ≤ 100000) (hs : ∀ j, j < m → w.cell? ⟨B, o + j, none⟩ = some (rowV Gs Ks C j))
 (hfr : FreshRow w 166 #[.pointer (some ⟨bx, 0, none⟩), .pointer (some ⟨bg, 0, none⟩)] x C) :
 Calls Tryz.prog 167 #[.slice (some ⟨B, o, none⟩) m mc, .int .i64 n, .func (.func 166) #[] #[.pointer (some ⟨bx, 0, none⟩), .pointer (some ⟨bg, 0, none⟩)]] w fun e w' => ∃ G', e = .returned (.slice (some ⟨w.heap.size, 0, none⟩) m m) ∧ MovInv w m n C x (rowV Gs Ks C) m G' w' := by
 obtain ⟨c0, hc0, hmk⟩ := make_rows m hm
 obtain ⟨i0, hi, hz0, hz1, hz2⟩ := info_three infoRow
 have H0 := Lib.hid (MovInv.zero w m n C x (rowV Gs Ks C) c0 hm hc0)
 have HFR := Lib.hid hfr
 have HS : Hid (∀ W j, Below w.heap.size w W → j < m → W.cell? ⟨B, o + j, none⟩ = some (.slice (some ⟨Gs j, 0, none⟩) C (Ks j))) := fun W j hb hj => (hb.cell (p := ⟨B, o + j, none⟩) (World.block_lt_of_cell? w _ (hs j hj))).trans (hs j hj)
 have hn1 := hn.1
 have hn2 := hn.2
 clear hfr hs hc0 hn
 go_enter Tryz.func167, Tryz.ntmps167
 go_wp2_with fail
 go_loopw [7, 14] (fun out i wr => ∃ (k : Nat) (G' : Nat → Nat), k ≤ m ∧ i = .int .i64 k ∧ out = .slice (some ⟨w.heap.size, 0, none⟩) k m ∧ MovInv w m n C x (rowV Gs Ks C) k G' wr) (fun _ i _ => m - (intOf i).toNat)
 case atStart => exact ⟨0, _, Nat.zero_le _, rfl, rfl, H0.out⟩
 case round =>
  obtain ⟨k, G', hk, rfl, rfl, hI⟩ := hrel
  have HI := Lib.hid hI
  clear hI
  by_cases hlt : k < m
  · have hkw : IntKind.i64.wrap ((k : Int) + 1) = ((k + 1 : Nat) : Int) := by rw [IntKind.wrap_i64]; omega
    have hw1 : IntKind.i64.wrap ((m : Int) - 1) = (m : Int) - 1 := wrap_in (by omega) (by omega)
    have hw2 : IntKind.i64.wrap ((m : Int) - 1 - (k : Int)) = (m : Int) - 1 - k := wrap_in (by omega) (by omega)
    have hw3 : IntKind.i64.wrap (-(k : Int)) = -(k : Int) := wrap_in (by omega) (by omega)
    cases hnew : newAt m n k
    · obtain ⟨j, hj, hjm, d1, d2⟩ := newAt_old hnew hlt
      have hw4 : IntKind.i64.wrap ((k : Int) + n) = (j : Int) := by rw [hj]; exact wrap_in (by omega) (by omega)
      have hjm' : (j : Int) < (m : Int) := by omega
      have hc := HS.out _ j HI.out.le hjm
      have HN := Lib.hid hnew
      have HJ : Hid (((k : Int) + n).toNat = j) := by rw [hj]; rfl
      clear hnew hj
      go_wp2_with (at_builtin; refine wpList_append_own_spare _ rfl _ _ 52 rfl w.heap.size 54 i0 1 Tryz.underlying52 hi hz1 w.heap.size k m _ rfl (HI.out.own.alloc _) ⟨wr.heap.size, 0, none⟩ 1 1 [.slice (some ⟨Gs j, 0, none⟩) C (Ks j)] rfl rfl (cell_one_new _ _ _) (by intro u hu; obtain rfl := List.mem_singleton.1 hu; rfl) (by omega) ?_; intro w5 hown5 hgrow5)
      exact ⟨⟨k + 1, G', by omega, by go_num, rfl, HI.out.old HN.out (by rw [HJ.out]; exact hown5) hgrow5⟩, by simp [intOf]; omega⟩
    · have HN := Lib.hid hnew
      have hway := newAt_new hnew
      clear hnew
      rcases hway with d1 | ⟨d1, d2⟩
      all_goals
       go_wp2_with (first
        | (go_at_call 166; refine (HFR.out _ HI.out.le).mono ?_; rintro e w3 ⟨r, rfl, hr0, hr3, hb3⟩; have own4 := Lib.hid ((own_below HI.out.own hb3).alloc (.cells #[.slice (some ⟨r, 0, none⟩) C C] 54)))
        | (at_builtin; refine wpList_append_own_spare _ rfl _ _ 52 rfl w.heap.size 54 i0 1 Tryz.underlying52 hi hz1 w.heap.size k m _ rfl own4.out ⟨w3.heap.size, 0, none⟩ 1 1 [.slice (some ⟨r, 0, none⟩) C C] rfl rfl (cell_one_new _ _ _) (by intro u hu; obtain rfl := List.mem_singleton.1 hu; rfl) (by omega) ?_; intro w5 hown5 hgrow5))
       exact ⟨⟨k + 1, _, by omega, by go_num, rfl, HI.out.new HN.out hb3 hr0 hr3 hown5 hgrow5⟩, by simp [intOf]; omega⟩
  · obtain rfl : k = m := by omega
    go_wp2_with fail
    go_ret
    exact ⟨G', rfl, HI.out⟩
theorem run_cut_both {P : Program} {t e : TypeId} {k : Nat} (hu : P.underlying t = some (.slice e)) (hsz : (P.info? e).map (·.size) = some k) (W : World) (b o len cap lo hi : Nat) (h0 : lo ≤ hi) (h1 : hi ≤ cap) (h2 : lo < cap) :
 Sem.run P (Instr.slice t (.slice (some ⟨b, o, none⟩) len cap) (some (.int .i64 (lo : Int))) (some (.int .i64 (hi : Int))) none) W = .ok (.slice (some ⟨b, o + lo * k, none⟩) (hi - lo) (cap - lo)) W := by
 cases hq : P.info? e with
 | none => simp [hq] at hsz
 | some i =>
   have hi' : i.size = k := by simpa [hq] using hsz
   have hl : ((lo : Int) ≤ (hi : Int)) := by omega
   have hl2 : ((hi : Int) ≤ (cap : Int)) := by omega
   simp [Instr.slice, run_underlying hu, Instr.sliceBounds, Instr.sliceBound, asIntOf, sizeOf, typeInfo, hq, hi', go_sem, show ¬ cap = lo by omega, hl, hl2]
   rw [if_pos h1, if_pos h0]
theorem rowSize : (Tryz.prog.info? 54).map (·.size) = some 1 := by kernel_rfl
theorem rollAt_new {top bot : Nat} {n : Int} {i : Nat} (h : Vz.rollAt top bot n i = none) : top ≤ i ∧ i ≤ bot ∧ newAt (bot + 1 - top) n (i - top) = true := by
 unfold Vz.rollAt at h
 split at h
 · rename_i hi
   split at h
   · rename_i hn
     refine ⟨hi.1, hi.2, ?_⟩
     unfold newAt
     rw [Bool.or_eq_true, decide_eq_true_iff, decide_eq_true_iff]
     omega
   · cases h
 · cases h
theorem rollAt_old {top bot : Nat} {n : Int} {i k : Nat} (h : Vz.rollAt top bot n i = some k) (hi : top ≤ i ∧ i ≤ bot) : newAt (bot + 1 - top) n (i - top) = false ∧ k = top + (((i - top : Nat) : Int) + n).toNat := by
 unfold Vz.rollAt at h
 rw [if_pos hi] at h
 split at h
 · cases h
 · rename_i hn
   injection h with h
   unfold newAt
   rw [Bool.or_eq_false_iff, decide_eq_false_iff_not, decide_eq_false_iff_not]
   omega
theorem rollAt_out {top bot : Nat} {n : Int} {i : Nat} (hi : ¬ (top ≤ i ∧ i ≤ bot)) : Vz.rollAt top bot n i = some i := by
 unfold Vz.rollAt
 rw [if_neg hi]
theorem Grid.rolled {w0 w2 w3 : World} {gp B cap : Nat} {G K : Nat → Nat} {D : Vz.Gd} {top bot : Nat} {n : Int} {x : Vz.Cl} {G' : Nat → Nat} (h : GridAt w0 gp B cap G K D) (htb : top ≤ bot) (hb : bot < D.R)
 (hI : MovInv w0 (bot + 1 - top) n D.C x (rowV (fun j => G (top + j)) (fun j => K (top + j)) D.C) (bot + 1 - top) G' w2)
 (hr : RowC w3 B 54 cap D.R (fun i => if top ≤ i ∧ i < top + (bot + 1 - top) then movedV (bot + 1 - top) n D.C (rowV (fun j => G (top + j)) (fun j => K (top + j)) D.C) G' (i - top) else rowV G K D.C i))
 (ho : ∀ b, b ≠ B → w3.heap[b]? = w2.heap[b]?) : ∃ F', Grid w3 gp F' (D.roll top bot n x) ∧ ∀ k, F' k → footG gp B G D.R k ∨ w0.heap.size ≤ k := by
 have hsame : ∀ b, b < w0.heap.size → b ≠ B → w3.heap[b]? = w0.heap[b]? := fun b hlt hne => (ho b hne).trans (hI.le.block b hlt)
 have hBlt := h.outer.lt
 have hGne : ∀ k, k < D.R → G k ≠ B := fun k hk e => by
  obtain ⟨c, hc, _⟩ := h.outer
  exact (h.row k hk).ne_of hc (by decide) e
 have hlt : ∀ {i k}, Vz.rollAt top bot n i = some k → i < D.R → k < D.R := fun hk hi => Vz.rollAt_lt hk hb hi
 have hnew : ∀ {i}, Vz.rollAt top bot n i = none → w0.heap.size < G' (i - top) ∧ RowC w2 (G' (i - top)) 56 (D.C * 4) (D.C * 4) (Vz.flatC fun _ => x) := fun {i} hk => by
  obtain ⟨h1, h2, h3⟩ := rollAt_new hk
  exact ⟨hI.ge _ (by omega) h3, hI.row _ (by omega) h3⟩
 refine ⟨footG gp B (fun i => match Vz.rollAt top bot n i with | none => G' (i - top) | some k => G k) D.R, ⟨B, cap, _, fun i => match Vz.rollAt top bot n i with | none => D.C | some k => K k, ⟨h.may, ?_, ?_, ?_, ?_⟩, fun k => Iff.rfl⟩, ?_⟩
 · refine (hsame gp (block_lt h.box) (fun e => ?_)).trans h.box
   obtain ⟨c, hc, _⟩ := h.outer
   have hbx := h.box
   rw [e, hc] at hbx
   injection hbx with hbx
   injection hbx with _ hbx
   cases hbx
 · refine hr.congr fun i hi => ?_
   by_cases hin : top ≤ i ∧ i ≤ bot
   · rw [if_pos ⟨hin.1, by omega⟩]
     cases hk : Vz.rollAt top bot n i with
     | none =>
       obtain ⟨h1, h2, h3⟩ := rollAt_new hk
       unfold movedV rowV
       simp only [h3, if_true, hk]
       rfl
     | some k =>
       obtain ⟨h1, h2⟩ := rollAt_old hk hin
       unfold movedV rowV
       simp only [h1, hk, ← h2]
       rfl
   · rw [if_neg (by omega)]
     unfold rowV
     simp only [rollAt_out hin]
     rfl
 · intro i hi
   cases hk : Vz.rollAt top bot n i with
   | none =>
     simp only [hk]
     have := (hnew hk)
     refine (this.2.of_block (ho _ (by omega))).congr fun q hq => ?_
     unfold Vz.flatC Vz.Gd.roll
     simp only [hk]
   | some k =>
     simp only [hk]
     have hkl := hlt hk hi
     have hrk := h.row k hkl
     refine (hrk.of_block (hsame _ hrk.lt (hGne k hkl))).congr fun q hq => ?_
     unfold Vz.flatC Vz.Gd.roll
     simp only [hk]
 · intro i j hi hj e
   cases hki : Vz.rollAt top bot n i with
   | none =>
     cases hkj : Vz.rollAt top bot n j with
     | none =>
       simp only [hki, hkj] at e
       obtain ⟨a1, a2, a3⟩ := rollAt_new hki
       obtain ⟨b1, b2, b3⟩ := rollAt_new hkj
       have := hI.inj _ _ (by omega) (by omega) a3 b3 e
       omega
     | some k =>
       simp only [hki, hkj] at e
       have := (hnew hki).1
       have := (h.row k (hlt hkj hj)).lt
       omega
   | some k =>
     cases hkj : Vz.rollAt top bot n j with
     | none =>
       simp only [hki, hkj] at e
       have := (hnew hkj).1
       have := (h.row k (hlt hki hi)).lt
       omega
     | some l =>
       simp only [hki, hkj] at e
       have := h.inj k l (hlt hki hi) (hlt hkj hj) e
       subst this
       exact Vz.rollAt_inj hki hkj
 · intro k hk
   rcases hk with rfl | rfl | ⟨i, hi, rfl⟩
   · exact .inl (.inl rfl)
   · exact .inl (.inr (.inl rfl))
   · dsimp only
     cases hki : Vz.rollAt top bot n i with
     | none =>
       have := (hnew hki).1
       exact .inr (by simp only; omega)
     | some k => exact .inl (.inr (.inr ⟨k, hlt hki hi, rfl⟩))
theorem cs_len (m : Nat) (f : Nat → Value) : ((List.range m).map f).length = m * 1 := by simp
theorem cs_one (m n : Nat) (nn : Int) (C : Nat) (Gs Ks G' : Nat → Nat) : ∀ v ∈ (List.range m).map (movedV n nn C (rowV Gs Ks C) G'), v.oneCell' = true := by
 intro v hv
 obtain ⟨j, _, rfl⟩ := List.mem_map.1 hv
 unfold movedV rowV
 split <;> rfl
theorem cs_src {W : World} {b base cap : Nat} {e : TypeId} {m : Nat} {f : Nat → Value} (h : W.ownsRow base e 1 (.slice (some ⟨b, 0, none⟩) m cap) m ((List.range m).map f)) : ∀ (j : Nat) (v : Value), ((List.range m).map f)[j]? = some v → W.cell? ((⟨b, 0, none⟩ : Addr).add j) = some v := by
 intro j v hj
 have hr := RowC.of_own h
 have hlt : j < m := by
  have := (List.getElem?_eq_some_iff.1 hj).1
  simpa using this
 rw [add_none, Nat.zero_add, hr.cell hlt]
 simp only [List.getD, hj, Option.getD_some]
theorem cs_get (m top : Nat) (f : Nat → Value) (f0 : Nat → Value) (i : Nat) : (if top ≤ i ∧ i < top + m then f (i - top) else f0 i) = if top ≤ i ∧ i < top + ((List.range m).map f).length then ((List.range m).map f).getD (i - top) undef else f0 i := by
 rw [show ((List.range m).map f).length = m by simp]
 split
 · rename_i h
   simp [List.getD, show i - top < m by omega]
 · rfl
theorem pos2 (w : World) (a b : Obj) (p q : Int) : (∀ k, k < 2 → (((w.alloc a).alloc b).alloc (.cells #[.int .i64 p, .int .i64 0, .int .i64 q, .int .i64 0] 36)).cell? ⟨w.heap.size + 1 + 1, k * 2, none⟩ = some (.int .i64 (if k = 0 then (⟨p, 0⟩ : Vz.Ps) else ⟨q, 0⟩).row) ∧ (((w.alloc a).alloc b).alloc (.cells #[.int .i64 p, .int .i64 0, .int .i64 q, .int .i64 0] 36)).cell? ⟨w.heap.size + 1 + 1, k * 2 + 1, none⟩ = some (.int .i64 (if k = 0 then (⟨p, 0⟩ : Vz.Ps) else ⟨q, 0⟩).col)) := by
 have h := heap_alloc_new ((w.alloc a).alloc b) (.cells #[.int .i64 p, .int .i64 0, .int .i64 q, .int .i64 0] 36)
 have e : ((w.alloc a).alloc b).heap.size = w.heap.size + 1 + 1 := by simp
 rw [e] at h
 intro k hk
 obtain rfl | rfl : k = 0 ∨ k = 1 := by omega
 · exact ⟨cell_row h 0, cell_row h 1⟩
 · exact ⟨cell_row h 2, cell_row h 3⟩
theorem groll_ok (gp : Nat) (F : Nat → Prop) (D : Vz.Gd) (top bot : Nat) (n : Int) (x : Vz.Cl) (w : World) (h : Grid w gp F D) (htb : top ≤ bot) (hb : bot < D.R) (hn : -100000 ≤ n ∧ n ≤ 100000) :
 Calls Tryz.prog 144 #[.pointer (some ⟨gp, 0, none⟩), .int .i64 top, .int .i64 bot, .int .i64 n, .agg #[.int .i32 x.g, .int .i64 x.a, .bool x.gd, .int .i64 x.m]] w fun e w' => e = .returned (.int .i64 0) ∧ (∃ F', Grid w' gp F' (D.roll top bot n x) ∧ ∀ k, F' k → F k ∨ w.heap.size ≤ k) ∧ Keeps F w w' := by
 obtain ⟨m1, m2, m3, m4⟩ := h.may
 have HTH := Lib.hid (fun (W : World) (hb' : Below w.heap.size w W) (b : Nat) (hl : ∀ k, k < 2 → W.cell? ⟨b, k * 2, none⟩ = some (.int .i64 (if k = 0 then (⟨top, 0⟩ : Vz.Ps) else ⟨bot, 0⟩).row) ∧ W.cell? ⟨b, k * 2 + 1, none⟩ = some (.int .i64 (if k = 0 then (⟨top, 0⟩ : Vz.Ps) else ⟨bot, 0⟩).col)) =>
  there_yes gp b F D 2 (fun k => if k = 0 then ⟨top, 0⟩ else ⟨bot, 0⟩) W (h.below hb') (by decide) (fun j hj => by obtain rfl | rfl : j = 0 ∨ j = 1 := (by omega); (exact ⟨Int.natCast_nonneg _, by simp; omega, Int.le_refl _, by simp; omega⟩); (exact ⟨Int.natCast_nonneg _, by simp; omega, Int.le_refl _, by simp; omega⟩)) hl)
 have H := Lib.hid h
 have hgp : gp < w.heap.size := block_lt h.choose_spec.choose_spec.choose_spec.choose_spec.1.box
 clear h
 go_enter Tryz.func144, Tryz.ntmps144
 have hmf : ∀ (fn : Fn) (first cap : Array Value) (w : World), (Instr.makeFunc fn first cap).run Tryz.prog w = .ok (.func fn first cap) w := fun _ _ _ _ => rfl
 go_upto_region 7 with (go_at_call 63; refine (HTH.out _ (Grows.below ((((Grows.refl _).alloc _).alloc _).alloc _)) _ (pos2 _ _ _ _ _)).mono ?_; rintro e w1 ⟨rfl, hb1⟩; obtain ⟨x0, x1, x2, hb⟩ := box3 hb1; have HB1 := Lib.hid hb; have X0 := Lib.hid x0; have X1 := Lib.hid x1; clear hb1 hb x0 x1 x2)
 obtain ⟨B, cap, G, K, hA, hF⟩ := H.out.below HB1.out
 have hlt1 : w.heap.size + 1 < w1.heap.size := block_lt X1.out
 have hBl := hA.outer.lt
 have hgl : gp < w1.heap.size := block_lt hA.box
 have hcR : D.R ≤ cap := hA.outer.le
 have HC : Hid (∀ W, Below w1.heap.size w1 W → W.cell? ⟨w.heap.size, 0, none⟩ = some (.pointer (some ⟨gp, 0, none⟩)) ∧ W.cell? ⟨gp, 0, none⟩ = some (.slice (some ⟨B, 0, none⟩) D.R cap)) := fun W hb => ⟨(hb.cell (p := ⟨w.heap.size, 0, none⟩) (by show w.heap.size < _; omega)).trans (cell_row X0.out 0), (hb.cell (p := ⟨gp, 0, none⟩) hgl).trans hA.head⟩
 have hsl1 : ∀ W : World, Sem.run Tryz.prog (Instr.slice 52 (.slice (some ⟨B, 0, none⟩) D.R cap) (some (.int .i64 (top : Int))) none none) W = .ok (.slice (some ⟨B, top, none⟩) (D.R - top) (cap - top)) W := fun W => by
  have := run_cut_from (P := Tryz.prog) Tryz.underlying52 rowSize W B 0 D.R cap top (by omega) (by omega)
  rwa [Nat.zero_add, Nat.mul_one] at this
 have hsl2 : ∀ W : World, Sem.run Tryz.prog (Instr.slice 52 (.slice (some ⟨B, 0, none⟩) D.R cap) (some (.int .i64 (top : Int))) (some (.int .i64 ((bot : Int) + 1))) none) W = .ok (.slice (some ⟨B, top, none⟩) (bot + 1 - top) (cap - top)) W := fun W => by
  have := run_cut_both (P := Tryz.prog) Tryz.underlying52 rowSize W B 0 D.R cap top (bot + 1) (by omega) (by omega) (by omega)
  rw [Nat.zero_add, Nat.mul_one, show ((bot + 1 : Nat) : Int) = (bot : Int) + 1 by omega] at this
  exact this
 have hbw : IntKind.i64.wrap ((bot : Int) + 1) = (bot : Int) + 1 := wrap_in (by omega) (by omega)
 have HD : Hid (Below w1.heap.size w1 w1.drew) := (Below.refl _ _).drew
 have HMV := Lib.hid (moved_rows B top (bot + 1 - top) (cap - top) (w.heap.size + 1) w.heap.size n x D.C (fun j => G (top + j)) (fun j => K (top + j)) w1.drew (by omega) hn (fun j hj => hA.line (i := top + j) (by omega)) (fresh_any (w.heap.size + 1) w.heap.size gp x F D w1.drew ⟨B, cap, G, K, hA.of_blocks (fun _ _ => rfl), hF⟩ X1.out (HC.out _ HD.out).1))
 have HA := Lib.hid hA
 have HF := Lib.hid hF
 have HQ : Hid (Nat.min (bot + 1 - top) (D.R - top) = bot + 1 - top) := Nat.min_eq_left (by omega)
 have HTB := Lib.hid htb
 have HBR := Lib.hid hb
 clear hA hF hn htb hb
 refine wp_region_noPanic ?_
 refine wp_region_k (S := fun W' : World => Below w1.heap.size w1 W') 17 (by kernel_rfl) (HD.out) (fun hHeld => ?_)
 refine kTK (v := ?_) 0 [5, 3, 2, 1] hHeld ?y1 ?_
 case y1 => (intro W hSw; obtain ⟨q0, q1⟩ := HC.out _ hSw; go_simp; try with_reducible rfl)
 refine kSK 1 hHeld ?_
 refine kSK 2 hHeld ?_
 refine kTK (v := ?_) 3 [5] hHeld ?y4 ?_
 case y4 => (intro W hSw; obtain ⟨q0, q1⟩ := HC.out _ hSw; go_simp; try with_reducible rfl)
 refine kSK 4 hHeld ?_
 try refine kNK ?_
 refine kSK 5 hHeld ?_
 refine kTK (v := ?_) 6 [16, 13, 9, 8, 7] hHeld ?y7 ?_
 case y7 => (intro W hSw; obtain ⟨q0, q1⟩ := HC.out _ hSw; go_simp; try with_reducible rfl)
 refine kSK 7 hHeld ?_
 refine kSK 8 hHeld ?_
 refine kTK (v := ?_) 9 [16, 13] hHeld ?y10 ?_
 case y10 => (intro W hSw; obtain ⟨q0, q1⟩ := HC.out _ hSw; go_simp; try with_reducible rfl)
 try refine kNK ?_
 refine kSK 10 hHeld ?_
 refine kSK 11 hHeld ?_
 refine kSK 12 hHeld ?_
 refine kSK 13 hHeld ?_
 refine kSK 14 hHeld ?_
 try refine kNK ?_
 refine kSK 15 hHeld ?_
 try refine kNK ?_
 refine kOK 16 fun KQ hKQ => ?_
 go_simp
 go_at_call 167
 refine HMV.out.mono ?_
 rintro e w2 ⟨G', rfl, hI⟩
 have HI := Lib.hid hI
 clear hI
 go_wp2_with fail
 refine hKQ.out _ _ (Below.later hHeld HI.out.le hHeld.size) ?_
 clear hHeld hKQ KQ
 intro hHeld
 try refine kNK ?_
 refine kPK 17 fun KQ hKQ => ?_
 rw [if_pos (by rfl)]
 refine wp_copy_rowC (.tmp 32) (.tmp 43) 52 52 rfl 54 1 Tryz.underlying52 rowSize B top (D.R - top) (cap - top) ⟨w1.heap.size, 0, none⟩ (bot + 1 - top) (bot + 1 - top) rfl rfl (bot + 1 - top) HQ.out 54 cap D.R (rowV G K D.C) (HA.out.outer.of_block (HI.out.le.block B hBl)) ((List.range (bot + 1 - top)).map (movedV (bot + 1 - top) n D.C (rowV (fun j => G (top + j)) (fun j => K (top + j)) D.C) G')) (cs_len _ _) (cs_src HI.out.own) (cs_one _ _ _ _ _ _ _) (by have := HBR.out; have := HTB.out; omega) (by have := HBR.out; have := HTB.out; rw [cs_len]; omega) D.R (.inl (Nat.le_refl _)) hcR _ (fun i hi => cs_get (bot + 1 - top) top _ _ i) ?_
 intro w3 hr3 ho3 hb3 hz3
 have HR3 := Lib.hid hr3
 have HO3 := Lib.hid ho3
 clear hr3 ho3
 refine hKQ.out _ _ ?_
 clear hKQ KQ
 try refine kNK ?_
 refine wpAnyK_done (by kernel_rfl) ?_ _
 refine NoPanic.normal ?_
 go_wp2_with fail
 go_ret
 obtain ⟨F', hG, hF'⟩ := Grid.rolled (HA.out.of_blocks (W' := w1.drew) (fun _ _ => rfl)) HTB.out HBR.out HI.out HR3.out HO3.out
 refine ⟨rfl, ⟨F', hG, fun k hk => (hF' k hk).imp (fun h => (HF.out k).2 h) (fun h => ?_)⟩, ?_⟩
 · have := HB1.out.size
   have h' : w1.heap.size ≤ k := h
   omega
 · have hk1 : Keeps F w w1 := Keeps.of_below HB1.out
   have hk2 : Keeps F w1 w2 := Keeps.of_below (Below.later HD.out HI.out.le (Nat.le_refl _))
   have hk3 : Keeps F w2 w3 := ⟨hb3.os, hb3.tape, hb3.output, hb3.size, fun k hk hn => HO3.out k (fun e => hn ((HF.out k).2 (.inr (.inl e))))⟩
   exact (hk1.trans hk2 fun k hk => .inl hk).trans hk3 fun k hk => .inl hk
def cellL (x : Vz.Cl) : List Value := [.int .i32 x.g, .int .i64 x.a, .bool x.gd, .int .i64 x.m]
def cellsL (f : Nat → Vz.Cl) (k : Nat) : List Value := (List.range (k * 4)).map (Vz.flatC f)
theorem cellsL_len (f : Nat → Vz.Cl) (k : Nat) : (cellsL f k).length = k * 4 := by unfold cellsL; simp
theorem cellsL_succ (f : Nat → Vz.Cl) (k : Nat) : cellsL f (k + 1) = cellsL f k ++ cellL (f k) := by
 unfold cellsL cellL
 rw [show (k + 1) * 4 = k * 4 + 1 + 1 + 1 + 1 by omega]
 simp only [List.range_succ, List.map_append, List.map_cons, List.map_nil, List.append_assoc, List.cons_append, List.nil_append]
 rw [show k * 4 = 4 * k by omega]
 simp only [Vz.flatC_0, Vz.flatC_1, Vz.flatC_2, Vz.flatC_3, Nat.add_assoc]
theorem cellsL_one (f : Nat → Vz.Cl) (k : Nat) : ∀ v ∈ cellsL f k, v.oneCell' = true := by
 intro v hv
 obtain ⟨q, _, rfl⟩ := List.mem_map.1 hv
 exact flat_one f q
theorem cellsL_getD (f : Nat → Vz.Cl) (k q : Nat) (h : q < k * 4) : (cellsL f k).getD q undef = Vz.flatC f q := by
 unfold cellsL
 simp [List.getD, h]
theorem cellsL_congr (f g : Nat → Vz.Cl) (k : Nat) (h : ∀ i, i < k → f i = g i) : cellsL f k = cellsL g k := by
 unfold cellsL
 refine List.map_congr_left fun q hq => ?_
 have := List.mem_range.1 hq
 unfold Vz.flatC
 rw [h (q / 4) (by omega)]
theorem cellL_one (x : Vz.Cl) : ∀ v ∈ cellL x, v.oneCell' = true := by
 intro v hv
 unfold cellL at hv
 simp only [List.mem_cons, List.not_mem_nil, or_false] at hv
 rcases hv with rfl | rfl | rfl | rfl <;> rfl
theorem cell_four_new (w : World) (x : Vz.Cl) : ∀ (j : Nat) (u : Value), (cellL x)[j]? = some u → (w.alloc (.cells #[.int .i32 x.g, .int .i64 x.a, .bool x.gd, .int .i64 x.m] 56)).cell? ((⟨w.heap.size, 0, none⟩ : Addr).add j) = some u := by
 intro j u hj
 have h := heap_alloc_new w (.cells (cellB x) 56)
 have hlt : j < 4 := (List.getElem?_eq_some_iff.1 hj).1
 rw [add_none, Nat.zero_add]
 refine (cell_row h j).trans ?_
 unfold cellB
 unfold cellL at hj
 rw [← hj]
 obtain rfl | rfl | rfl | rfl : j = 0 ∨ j = 1 ∨ j = 2 ∨ j = 3 := by omega
 all_goals rfl
theorem make_cells0 (m : Nat) (h2 : m ≤ 255) : ∃ c0 : Array Value, c0.size = m * 4 ∧ ∀ W : World, Sem.run Tryz.prog (Instr.makeSlice 54 (.int .i64 0) (.int .i64 (m : Int))) W = .ok (.slice (some ⟨W.heap.size, 0, none⟩) 0 m) (W.alloc (.cells c0 56)) := by
 obtain ⟨i, hi, hz, hs, hb⟩ := info_three infoCell
 refine ⟨madeCells (Value.agg #[.int .i32 0, .int .i64 0, .bool false, .int .i64 0]).cells (m * 4), size_madeCells _ _, fun W => ?_⟩
 have := run_make (P := Tryz.prog) W 54 56 i _ Tryz.underlying54 hi hz .i64 .i64 0 m (by omega) (by omega) (by rw [hb]; omega) (by omega)
 rw [hs] at this
 simpa using this
def FreshCell (w : World) (v : Nat) (caps : Array Value) (x : Vz.Cl) : Prop :=
 ∀ W, Below w.heap.size w W → Calls Tryz.prog v caps W fun e w' => e = .returned (.agg #[.int .i32 x.g, .int .i64 x.a, .bool x.gd, .int .i64 x.m]) ∧ Below W.heap.size W w'
theorem fresh_cell (bx : Nat) (x : Vz.Cl) (w : World) (hx : w.heap[bx]? = some (.cells (cellB x) 56 (0, 0))) :
 FreshCell w 170 #[.pointer (some ⟨bx, 0, none⟩)] x := by
 intro W hW
 have hlt := block_lt hx
 have hx1 : (W.alloc (.cells #[.int .i32 0, .int .i64 0, .bool false, .int .i64 0] 56)).heap[bx]? = some (.cells (cellB x) 56 (0, 0)) := ((below1 W _).block _ (Nat.lt_of_lt_of_le hlt hW.size)).trans ((hW.block _ hlt).trans hx)
 obtain ⟨q0, q1, q2, q3⟩ := cell4 hx1
 obtain ⟨y0, y1, y2, y3, z0, z1, z2, z3⟩ := row4 (heap_alloc_new W (.cells #[.int .i32 0, .int .i64 0, .bool false, .int .i64 0] 56))
 have HN := Lib.hid (heap_alloc_new W (.cells #[.int .i32 0, .int .i64 0, .bool false, .int .i64 0] 56))
 clear hx hx1 hW
 go_enter Tryz.func170, Tryz.ntmps170
 go_wp2_with fail
 obtain ⟨r0, r1, r2, r3⟩ := cell4 (heap_alloc_new W (.cells (cellB x) 56))
 unfold cellB at r0 r1 r2 r3
 refine bodyPost_ret (v := .agg #[.int .i32 x.g, .int .i64 x.a, .bool x.gd, .int .i64 x.m]) (by simp [results, Tryz.results170, go_sem, r0, r1, r2, r3]) rfl ⟨rfl, below1 W _⟩
def movX (m : Nat) (n : Int) (x : Vz.Cl) (src : Nat → Vz.Cl) (i : Nat) : Vz.Cl := if newAt m n i = true then x else src ((i : Int) + n).toNat
structure MovC (w : World) (m : Nat) (f : Nat → Vz.Cl) (i : Nat) (W : World) : Prop where
 own : W.ownsRow w.heap.size 56 4 (.slice (some ⟨w.heap.size, 0, none⟩) i m) i (cellsL f i)
 le : Below w.heap.size w W
theorem MovC.zero (w : World) (m : Nat) (f : Nat → Vz.Cl) (c0 : Array Value) (hm : m ≤ 255) (hc : c0.size = m * 4) : MovC w m f 0 (w.alloc (.cells c0 56)) :=
 ⟨World.ownsRow_made w c0 m (Nat.le_refl _) (by unfold maxLen; omega) hc, below1 _ _⟩
theorem MovC.next {w : World} {m : Nat} {f : Nat → Vz.Cl} {i : Nat} {W w3 W' : World} {o : Obj} (h : MovC w m f i W) (hb : Below W.heap.size W w3)
 (hown : W'.ownsRow w.heap.size 56 4 (.slice (some ⟨w.heap.size, 0, none⟩) (i + 1) m) (i + 1) (cellsL f i ++ cellL (f i))) (hg : (w3.alloc o).grownBy W' (some w.heap.size)) : MovC w m f (i + 1) W' := by
 rw [← cellsL_succ] at hown
 have hs : w.heap.size ≤ W.heap.size := h.le.size
 have hs3 : W.heap.size ≤ w3.heap.size := hb.size
 exact ⟨hown, ((Below.later h.le hb hs).alloc (by omega) o).grown hg (by rw [World.size_alloc]; omega) (fun k e => by injection e with e; omega)⟩
def CellsAt (W : World) (g o m : Nat) (f : Nat → Vz.Cl) : Prop := ∀ j, j < m → W.cell? ⟨g, o + j * 4, none⟩ = some (.int .i32 (f j).g) ∧ W.cell? ⟨g, o + j * 4 + 1, none⟩ = some (.int .i64 (f j).a) ∧ W.cell? ⟨g, o + j * 4 + 2, none⟩ = some (.bool (f j).gd) ∧ W.cell? ⟨g, o + j * 4 + 3, none⟩ = some (.int .i64 (f j).m)
theorem CellsAt.below {W W' : World} {g o m : Nat} {f : Nat → Vz.Cl} (h : CellsAt W g o m f) (hb : Below W.heap.size W W') : CellsAt W' g o m f := fun j hj => by
 obtain ⟨h0, h1, h2, h3⟩ := h j hj
 have hc : ∀ {p : Addr} {v : Value}, W.cell? p = some v → W'.cell? p = some v := fun {p v} e => (hb.cell (World.block_lt_of_cell? W _ e)).trans e
 exact ⟨hc h0, hc h1, hc h2, hc h3⟩
theorem moved_cells (g o m mc bx : Nat) (n : Int) (x : Vz.Cl) (src : Nat → Vz.Cl) (w : World) (hm : m ≤ 255) (hn : -100000 ≤ n ∧ n ≤ 100000) (hs : CellsAt w g o m src)
 (hfr : FreshCell w 170 #[.pointer (some ⟨bx, 0, none⟩)] x) :
 Calls Tryz.prog 169 #[.slice (some ⟨g, o, none⟩) m mc, .int .i64 n, .func (.func 170) #[] #[.pointer (some ⟨bx, 0, none⟩)]] w fun e w' => e = .returned (.slice (some ⟨w.heap.size, 0, none⟩) m m) ∧ MovC w m (movX m n x src) m w' := by
 obtain ⟨c0, hc0, hmk⟩ := make_cells0 m hm
 obtain ⟨i0, hi, hz0, hz1, hz2⟩ := info_three infoCell
 have H0 := Lib.hid (MovC.zero w m (movX m n x src) c0 hm hc0)
 have HFR := Lib.hid hfr
 have HS : Hid (∀ W, Below w.heap.size w W → CellsAt W g o m src) := fun W hb => hs.below hb
 have hn1 := hn.1
 have hn2 := hn.2
 clear hfr hs hc0 hn
 go_enter Tryz.func169, Tryz.ntmps169
 go_wp2_with fail
 go_loopw [7, 14] (fun out i wr => ∃ (k : Nat), k ≤ m ∧ i = .int .i64 k ∧ out = .slice (some ⟨w.heap.size, 0, none⟩) k m ∧ MovC w m (movX m n x src) k wr) (fun _ i _ => m - (intOf i).toNat)
 case atStart => exact ⟨0, Nat.zero_le _, rfl, rfl, H0.out⟩
 case round =>
  obtain ⟨k, hk, rfl, rfl, hI⟩ := hrel
  have HI := Lib.hid hI
  clear hI
  by_cases hlt : k < m
  · have hkw : IntKind.i64.wrap ((k : Int) + 1) = ((k + 1 : Nat) : Int) := by rw [IntKind.wrap_i64]; omega
    have hw1 : IntKind.i64.wrap ((m : Int) - 1) = (m : Int) - 1 := wrap_in (by omega) (by omega)
    have hw2 : IntKind.i64.wrap ((m : Int) - 1 - (k : Int)) = (m : Int) - 1 - k := wrap_in (by omega) (by omega)
    have hw3 : IntKind.i64.wrap (-(k : Int)) = -(k : Int) := wrap_in (by omega) (by omega)
    cases hnew : newAt m n k
    · obtain ⟨j, hj, hjm, d1, d2⟩ := newAt_old hnew hlt
      have hw4 : IntKind.i64.wrap ((k : Int) + n) = (j : Int) := by rw [hj]; exact wrap_in (by omega) (by omega)
      have hjm' : (j : Int) < (m : Int) := by omega
      obtain ⟨p0, p1, p2, p3⟩ := HS.out _ HI.out.le j hjm
      have HV : Hid (movX m n x src k = src j) := by
       unfold movX Hid
       rw [hnew, hj]
       rfl
      clear hnew hj
      go_wp2_with (at_builtin; refine wpList_append_own_spare _ rfl _ _ 54 rfl w.heap.size 56 i0 4 Tryz.underlying54 hi hz1 w.heap.size k m _ rfl (HI.out.own.alloc _) ⟨wr.heap.size, 0, none⟩ 1 1 (cellL (src j)) rfl rfl (cell_four_new _ _) (cellL_one _) (by omega) ?_; intro w5 hown5 hgrow5)
      exact ⟨⟨k + 1, by omega, by go_num, rfl, HI.out.next (Below.refl _ _) (by rw [HV.out]; exact hown5) hgrow5⟩, by simp [intOf]; omega⟩
    · have HV : Hid (movX m n x src k = x) := by
       unfold movX Hid
       rw [hnew]
       rfl
      have hway := newAt_new hnew
      clear hnew
      rcases hway with d1 | ⟨d1, d2⟩
      all_goals
       go_wp2_with (first
        | (go_at_call 170; refine (HFR.out _ HI.out.le).mono ?_; rintro e w3 ⟨rfl, hb3⟩; have own4 := Lib.hid ((own_below HI.out.own hb3).alloc (.cells #[.int .i32 x.g, .int .i64 x.a, .bool x.gd, .int .i64 x.m] 56)))
        | (at_builtin; refine wpList_append_own_spare _ rfl _ _ 54 rfl w.heap.size 56 i0 4 Tryz.underlying54 hi hz1 w.heap.size k m _ rfl own4.out ⟨w3.heap.size, 0, none⟩ 1 1 (cellL x) rfl rfl (cell_four_new _ _) (cellL_one _) (by omega) ?_; intro w5 hown5 hgrow5))
       exact ⟨⟨k + 1, by omega, by go_num, rfl, HI.out.next hb3 (by rw [HV.out]; exact hown5) hgrow5⟩, by simp [intOf]; omega⟩
  · obtain rfl : k = m := by omega
    go_wp2_with fail
    go_ret
    exact ⟨rfl, HI.out⟩
end
end Go.Proofs.YtncgigapgklhcaaGreatDoor
/- Walks: a grid's Slide. -/
namespace Vz
def Gd.slide (D : Gd) (row a b : Nat) (n : Int) (x : Cl) : Gd :=
 ⟨D.R, D.C, fun i j => if i = row then (match rollAt a b n j with | none => x | some k => D.X row k) else D.X i j⟩
end Vz
namespace Go.Proofs.YtncgigapgklhcaaGreatDoor
open Go.RowKit
set_option linter.unusedSimpArgs false
set_option linter.unusedVariables false
attribute [local go_sem] alloc_drewN setCell_drewN World.cell?_alloc_some frozen_alloc_some
theorem RowC.of_own4 {W : World} {base : Nat} {e : TypeId} {g n cap : Nat} {xs : List Value} (h : W.ownsRow base e 4 (.slice (some ⟨g, 0, none⟩) n cap) n xs) : RowC W g e (cap * 4) (n * 4) (fun i => xs.getD i undef) := by
 obtain ⟨hl, h⟩ := h
 rcases h with ⟨h, _⟩ | ⟨g', cap', cur, hv, _, hg, hn, _, hc, ht⟩
 · cases h
 · cases hv
   refine ⟨cur, hg, by omega, by omega, fun i hi => ?_⟩
   have : (cur.toList.take (n * 4))[i]? = xs[i]? := by rw [ht]
   rw [List.getElem?_take_of_lt (by omega)] at this
   rw [← Array.getElem?_toList, this]
   simp [List.getD, List.getElem?_eq_getElem (show i < xs.length by omega)]
theorem cs_src4 {W : World} {b base cap m : Nat} {f : Nat → Vz.Cl} (h : W.ownsRow base 56 4 (.slice (some ⟨b, 0, none⟩) m cap) m (cellsL f m)) : ∀ (j : Nat) (v : Value), (cellsL f m)[j]? = some v → W.cell? ((⟨b, 0, none⟩ : Addr).add j) = some v := by
 intro j v hj
 have hr := RowC.of_own4 h
 have hlt : j < m * 4 := by
  have := (List.getElem?_eq_some_iff.1 hj).1
  rwa [cellsL_len] at this
 rw [add_none, Nat.zero_add, hr.cell hlt]
 simp only [List.getD, hj, Option.getD_some]
theorem pos2a (w : World) (a : Obj) (p q r s : Int) : (∀ k, k < 2 → ((w.alloc a).alloc (.cells #[.int .i64 p, .int .i64 q, .int .i64 r, .int .i64 s] 36)).cell? ⟨w.heap.size + 1, k * 2, none⟩ = some (.int .i64 (if k = 0 then (⟨p, q⟩ : Vz.Ps) else ⟨r, s⟩).row) ∧ ((w.alloc a).alloc (.cells #[.int .i64 p, .int .i64 q, .int .i64 r, .int .i64 s] 36)).cell? ⟨w.heap.size + 1, k * 2 + 1, none⟩ = some (.int .i64 (if k = 0 then (⟨p, q⟩ : Vz.Ps) else ⟨r, s⟩).col)) := by
 have h := heap_alloc_new (w.alloc a) (.cells #[.int .i64 p, .int .i64 q, .int .i64 r, .int .i64 s] 36)
 have e : (w.alloc a).heap.size = w.heap.size + 1 := by simp
 rw [e] at h
 intro k hk
 obtain rfl | rfl : k = 0 ∨ k = 1 := by omega
 · exact ⟨cell_row h 0, cell_row h 1⟩
 · exact ⟨cell_row h 2, cell_row h 3⟩
theorem slide_flat (D : Vz.Gd) (row a b : Nat) (n : Int) (x : Vz.Cl) (hab : a ≤ b) (q : Nat) :
 Vz.flatC ((D.slide row a b n x).X row) q = if a * 4 ≤ q ∧ q < a * 4 + (cellsL (movX (b + 1 - a) n x fun j => D.X row (a + j)) (b + 1 - a)).length then (cellsL (movX (b + 1 - a) n x fun j => D.X row (a + j)) (b + 1 - a)).getD (q - a * 4) undef else Vz.flatC (D.X row) q := by
 rw [cellsL_len]
 split
 · rename_i h
   rw [cellsL_getD _ _ _ (by omega)]
   unfold Vz.flatC
   rw [show (q - a * 4) % 4 = q % 4 by omega, show (q - a * 4) / 4 = q / 4 - a by omega]
   congr 1
   generalize hj : q / 4 = j
   have hin : a ≤ j ∧ j ≤ b := by omega
   show (if row = row then _ else _) = _
   rw [if_pos rfl]
   unfold movX
   cases hr : Vz.rollAt a b n j with
   | none =>
     obtain ⟨_, _, h3⟩ := rollAt_new hr
     rw [h3]
     rfl
   | some k =>
     obtain ⟨h1, h2⟩ := rollAt_old hr hin
     rw [h1, h2]
     rfl
 · rename_i h
   unfold Vz.flatC
   congr 1
   have hout : ¬ (a ≤ q / 4 ∧ q / 4 ≤ b) := by omega
   show (if row = row then _ else _) = _
   rw [if_pos rfl, rollAt_out hout]
theorem Grid.slid {w2 w3 : World} {gp B cap : Nat} {G K : Nat → Nat} {F : Nat → Prop} {D D' : Vz.Gd} {row : Nat} (h : GridAt w2 gp B cap G K D) (hF : ∀ k, F k ↔ footG gp B G D.R k) (hr : row < D.R) (hR : D'.R = D.R) (hC : D'.C = D.C)
 (hX : ∀ i, i ≠ row → D'.X i = D.X i) (hrow : RowC w3 (G row) 56 (K row * 4) (D.C * 4) (Vz.flatC (D'.X row))) (ho : ∀ b, b ≠ G row → w3.heap[b]? = w2.heap[b]?) : Grid w3 gp F D' := by
 have hrr := h.row row hr
 have hne1 : gp ≠ G row := fun e => hrr.ne_of h.box (by decide) e.symm
 have hne2 : B ≠ G row := fun e => by
  obtain ⟨c, hc, _⟩ := h.outer
  exact hrr.ne_of hc (by decide) e.symm
 have hmay : D'.may := by unfold Vz.Gd.may; rw [hR, hC]; exact h.may
 refine ⟨B, cap, G, K, ⟨hmay, by rw [hR]; exact (ho _ hne1).trans h.box, by rw [hR, hC]; exact h.outer.of_block (ho _ hne2), fun i hi => ?_, fun i j hi hj => h.inj i j (by omega) (by omega)⟩, fun k => by rw [hR]; exact hF k⟩
 rw [hC]
 by_cases e : i = row
 · subst e
   exact hrow
 · rw [hX i e]
   exact (h.row i (by omega)).of_block (ho _ fun e' => e (h.inj i row (by omega) hr e'))
theorem gslide_ok (gp : Nat) (F : Nat → Prop) (D : Vz.Gd) (row a b : Nat) (n : Int) (x : Vz.Cl) (w : World) (h : Grid w gp F D) (hrow : row < D.R) (hab : a ≤ b) (hb : b < D.C) (hn : -100000 ≤ n ∧ n ≤ 100000) :
 Calls Tryz.prog 149 #[.pointer (some ⟨gp, 0, none⟩), .int .i64 row, .int .i64 a, .int .i64 b, .int .i64 n, .agg #[.int .i32 x.g, .int .i64 x.a, .bool x.gd, .int .i64 x.m]] w fun e w' => e = .returned (.int .i64 0) ∧ Grid w' gp F (D.slide row a b n x) ∧ Keeps F w w' := by
 obtain ⟨m1, m2, m3, m4⟩ := h.may
 have HTH := Lib.hid (fun (W : World) (hb' : Below w.heap.size w W) (bb : Nat) (hl : ∀ k, k < 2 → W.cell? ⟨bb, k * 2, none⟩ = some (.int .i64 (if k = 0 then (⟨row, a⟩ : Vz.Ps) else ⟨row, b⟩).row) ∧ W.cell? ⟨bb, k * 2 + 1, none⟩ = some (.int .i64 (if k = 0 then (⟨row, a⟩ : Vz.Ps) else ⟨row, b⟩).col)) =>
  there_yes gp bb F D 2 (fun k => if k = 0 then ⟨row, a⟩ else ⟨row, b⟩) W (h.below hb') (by decide) (fun j hj => by obtain rfl | rfl : j = 0 ∨ j = 1 := (by omega); (exact ⟨Int.natCast_nonneg _, by simp; omega, Int.natCast_nonneg _, by simp; omega⟩); (exact ⟨Int.natCast_nonneg _, by simp; omega, Int.natCast_nonneg _, by simp; omega⟩)) hl)
 have H := Lib.hid h
 have hgp : gp < w.heap.size := block_lt h.choose_spec.choose_spec.choose_spec.choose_spec.1.box
 clear h
 go_enter Tryz.func149, Tryz.ntmps149
 have hmf : ∀ (fn : Fn) (first cap : Array Value) (w : World), (Instr.makeFunc fn first cap).run Tryz.prog w = .ok (.func fn first cap) w := fun _ _ _ _ => rfl
 go_upto_region 6 with (go_at_call 63; refine (HTH.out _ (Grows.below (((Grows.refl _).alloc _).alloc _)) _ (pos2a _ _ _ _ _ _)).mono ?_; rintro e w1 ⟨rfl, hb1⟩; obtain ⟨x0, x1, hb⟩ := box2 hb1; have HB1 := Lib.hid hb; have X0 := Lib.hid x0; clear hb1 hb x0 x1)
 obtain ⟨B, cap, G, K, hA, hF⟩ := H.out.below HB1.out
 have hlt1 : w.heap.size < w1.heap.size := block_lt X0.out
 have hBl := hA.outer.lt
 have hgl : gp < w1.heap.size := block_lt hA.box
 have hcR : D.R ≤ cap := hA.outer.le
 have hrr := hA.row row hrow
 have hGl : G row < w1.heap.size := hrr.lt
 have hcK : D.C * 4 ≤ K row * 4 := hrr.le
 have hrwR : (row : Int) < (D.R : Int) := by omega
 have HC : Hid (∀ W, Below w1.heap.size w1 W → W.cell? ⟨gp, 0, none⟩ = some (.slice (some ⟨B, 0, none⟩) D.R cap) ∧ W.cell? ⟨B, row, none⟩ = some (.slice (some ⟨G row, 0, none⟩) D.C (K row))) := fun W hb => ⟨(hb.cell (p := ⟨gp, 0, none⟩) hgl).trans hA.head, (hb.cell (p := ⟨B, row, none⟩) hBl).trans (hA.line hrow)⟩
 have hsl1 : ∀ W : World, Sem.run Tryz.prog (Instr.slice 54 (.slice (some ⟨G row, 0, none⟩) D.C (K row)) (some (.int .i64 (a : Int))) none none) W = .ok (.slice (some ⟨G row, a * 4, none⟩) (D.C - a) (K row - a)) W := fun W => by
  have := run_cut_from (P := Tryz.prog) Tryz.underlying54 cellSize W (G row) 0 D.C (K row) a (by omega) (by omega)
  rwa [Nat.zero_add] at this
 have hsl2 : ∀ W : World, Sem.run Tryz.prog (Instr.slice 54 (.slice (some ⟨G row, 0, none⟩) D.C (K row)) (some (.int .i64 (a : Int))) (some (.int .i64 ((b : Int) + 1))) none) W = .ok (.slice (some ⟨G row, a * 4, none⟩) (b + 1 - a) (K row - a)) W := fun W => by
  have := run_cut_both (P := Tryz.prog) Tryz.underlying54 cellSize W (G row) 0 D.C (K row) a (b + 1) (by omega) (by omega) (by omega)
  rw [Nat.zero_add, show ((b + 1 : Nat) : Int) = (b : Int) + 1 by omega] at this
  exact this
 have hbw : IntKind.i64.wrap ((b : Int) + 1) = (b : Int) + 1 := wrap_in (by omega) (by omega)
 have HD : Hid (Below w1.heap.size w1 w1.drew) := (Below.refl _ _).drew
 have HMV := Lib.hid (moved_cells (G row) (a * 4) (b + 1 - a) (K row - a) w.heap.size n x (fun j => D.X row (a + j)) w1.drew (by omega) hn (fun j hj => by
  have := hA.cells (i := row) (j := a + j) hrow (by omega)
  rw [show (a + j) * 4 = a * 4 + j * 4 by omega] at this
  exact this) (fresh_cell w.heap.size x w1.drew X0.out))
 have HA := Lib.hid hA
 have HF := Lib.hid hF
 have HQ : Hid (Nat.min (b + 1 - a) (D.C - a) = b + 1 - a) := Nat.min_eq_left (by omega)
 have HAB := Lib.hid hab
 have HBC := Lib.hid hb
 have HRW := Lib.hid hrow
 have HCK := Lib.hid hcK
 have HSF := Lib.hid (slide_flat D row a b n x hab)
 clear hA hF hn hab hb hrr hrow hcK
 refine wp_region_noPanic ?_
 refine wp_region_k (S := fun W' : World => Below w1.heap.size w1 W') 23 (by kernel_rfl) (HD.out) (fun hHeld => ?_)
 refine kSK 0 hHeld ?_
 refine kSK 1 hHeld ?_
 refine kSK 2 hHeld ?_
 refine kTK (v := ?_) 3 [8, 6, 5] hHeld ?y4 ?_
 case y4 => (intro W hSw; obtain ⟨q0, q1⟩ := HC.out _ hSw; go_simp; try with_reducible rfl)
 refine kSK 4 hHeld ?_
 try refine kNK ?_
 refine kSK 5 hHeld ?_
 refine kTK (v := ?_) 6 [8] hHeld ?y7 ?_
 case y7 => (intro W hSw; obtain ⟨q0, q1⟩ := HC.out _ hSw; go_simp; try with_reducible rfl)
 refine kSK 7 hHeld ?_
 refine kSK 8 hHeld ?_
 refine kSK 9 hHeld ?_
 try refine kNK ?_
 refine kSK 10 hHeld ?_
 refine kSK 11 hHeld ?_
 refine kTK (v := ?_) 12 [22, 19, 15, 14] hHeld ?y13 ?_
 case y13 => (intro W hSw; obtain ⟨q0, q1⟩ := HC.out _ hSw; go_simp; try with_reducible rfl)
 refine kSK 13 hHeld ?_
 refine kSK 14 hHeld ?_
 try refine kNK ?_
 refine kTK (v := ?_) 15 [22, 19] hHeld ?y16 ?_
 case y16 => (intro W hSw; obtain ⟨q0, q1⟩ := HC.out _ hSw; go_simp; try with_reducible rfl)
 refine kSK 16 hHeld ?_
 refine kSK 17 hHeld ?_
 refine kSK 18 hHeld ?_
 refine kSK 19 hHeld ?_
 try refine kNK ?_
 refine kSK 20 hHeld ?_
 refine kSK 21 hHeld ?_
 try refine kNK ?_
 refine kOK 22 fun KQ hKQ => ?_
 go_simp
 go_at_call 169
 refine HMV.out.mono ?_
 rintro e w2 ⟨rfl, hI⟩
 have HI := Lib.hid hI
 clear hI
 go_wp2_with fail
 refine hKQ.out _ _ (Below.later hHeld HI.out.le hHeld.size) ?_
 clear hHeld hKQ KQ
 intro hHeld
 try refine kNK ?_
 refine kPK 23 fun KQ hKQ => ?_
 rw [if_pos (by rfl)]
 refine wp_copy_rowC (.tmp 37) (.tmp 51) 54 54 rfl 56 4 Tryz.underlying54 cellSize (G row) (a * 4) (D.C - a) (K row - a) ⟨w1.heap.size, 0, none⟩ (b + 1 - a) (b + 1 - a) rfl rfl (b + 1 - a) HQ.out 56 (K row * 4) (D.C * 4) (Vz.flatC (D.X row)) ((HA.out.row row HRW.out).of_block (HI.out.le.block _ hGl)) (cellsL (movX (b + 1 - a) n x fun j => D.X row (a + j)) (b + 1 - a)) (cellsL_len _ _) (cs_src4 HI.out.own) (cellsL_one _ _) (by have := HBC.out; have := HAB.out; omega) (by have := HBC.out; have := HAB.out; have := HCK.out; rw [cellsL_len]; omega) (D.C * 4) (.inl (Nat.le_refl _)) HCK.out _ (fun i hi => HSF.out i) ?_
 intro w3 hr3 ho3 hb3 hz3
 have HR3 := Lib.hid hr3
 have HO3 := Lib.hid ho3
 clear hr3 ho3
 refine hKQ.out _ _ ?_
 clear hKQ KQ
 try refine kNK ?_
 refine wpAnyK_done (by kernel_rfl) ?_ _
 refine NoPanic.normal ?_
 go_wp2_with fail
 go_ret
 have hA2 : GridAt w2 gp B cap G K D := HA.out.of_blocks fun k hk => (Below.later HD.out HI.out.le (Nat.le_refl _)).block k ((show Grid w1 gp F D from ⟨B, cap, G, K, HA.out, HF.out⟩).lt k ((HF.out k).2 hk))
 refine ⟨rfl, Grid.slid hA2 HF.out HRW.out rfl rfl (fun i hi => ?_) HR3.out HO3.out, ?_⟩
 · funext j
   show (if i = row then _ else _) = _
   rw [if_neg hi]
 · have hk1 : Keeps F w w1 := Keeps.of_below HB1.out
   have hk2 : Keeps F w1 w2 := Keeps.of_below (Below.later HD.out HI.out.le (Nat.le_refl _))
   have hk3 : Keeps F w2 w3 := ⟨hb3.os, hb3.tape, hb3.output, hb3.size, fun k hk hn => HO3.out k (fun e => hn ((HF.out k).2 (.inr (.inr ⟨row, HRW.out, e⟩))))⟩
   exact (hk1.trans hk2 fun k hk => .inl hk).trans hk3 fun k hk => .inl hk
end Go.Proofs.YtncgigapgklhcaaGreatDoor
