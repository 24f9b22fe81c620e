/- Walks: a grid's Roll. -/
import Derived.Test.YtbnkfiaggehmgaaGreatDoorGrdRoll
namespace Go.Proofs.YtbnkfiaggehmgaaGreatDoor
open Go.RowKit
set_option linter.unusedSimpArgs false
set_option linter.unusedVariables false
attribute [local go_sem] alloc_drewN setCell_drewN World.cell?_alloc_some frozen_alloc_some

/-- A slice cut from lo to hi. -/
theorem run_cut_both {P : Program} {t e : TypeId} {k : Nat} (hu : P.underlying t = some (.slice e)) (hsz : (P.info? e).map (·.size) = some k) (W : World) (b o len cap lo hi : Nat) (h0 : lo ≤ hi) (h1 : hi ≤ cap) (h2 : lo < cap) :
    Sem.run P (Instr.slice t (.slice (some ⟨b, o, none⟩) len cap) (some (.int .i64 (lo : Int))) (some (.int .i64 (hi : Int))) none) W = .ok (.slice (some ⟨b, o + lo * k, none⟩) (hi - lo) (cap - lo)) W := by
  cases hq : P.info? e with
  | none => simp [hq] at hsz
  | some i =>
    have hi' : i.size = k := by simpa [hq] using hsz
    have hl : ((lo : Int) ≤ (hi : Int)) := by omega
    have hl2 : ((hi : Int) ≤ (cap : Int)) := by omega
    simp [Instr.slice, run_underlying hu, Instr.sliceBounds, Instr.sliceBound, asIntOf, sizeOf, typeInfo, hq, hi', go_sem, show ¬ cap = lo by omega, hl, hl2]
    rw [if_pos h1, if_pos h0]
theorem rowSize : (Tryz.prog.info? 88).map (·.size) = some 1 := by kernel_rfl
theorem rollAt_new {top bot : Nat} {n : Int} {i : Nat} (h : Vz.rollAt top bot n i = none) : top ≤ i ∧ i ≤ bot ∧ newAt (bot + 1 - top) n (i - top) = true := by
  unfold Vz.rollAt at h
  split at h
  · rename_i hi
    split at h
    · rename_i hn
      refine ⟨hi.1, hi.2, ?_⟩
      unfold newAt
      rw [Bool.or_eq_true, decide_eq_true_iff, decide_eq_true_iff]
      omega
    · cases h
  · cases h
theorem rollAt_old {top bot : Nat} {n : Int} {i k : Nat} (h : Vz.rollAt top bot n i = some k) (hi : top ≤ i ∧ i ≤ bot) : newAt (bot + 1 - top) n (i - top) = false ∧ k = top + (((i - top : Nat) : Int) + n).toNat := by
  unfold Vz.rollAt at h
  rw [if_pos hi] at h
  split at h
  · cases h
  · rename_i hn
    injection h with h
    unfold newAt
    rw [Bool.or_eq_false_iff, decide_eq_false_iff_not, decide_eq_false_iff_not]
    omega
theorem rollAt_out {top bot : Nat} {n : Int} {i : Nat} (hi : ¬ (top ≤ i ∧ i ≤ bot)) : Vz.rollAt top bot n i = some i := by
  unfold Vz.rollAt
  rw [if_neg hi]
/-- What a roll leaves: the rows that moved laid over the old ones. -/
theorem Grid.rolled {w0 w2 w3 : World} {gp B cap : Nat} {G K : Nat → Nat} {D : Vz.Gd} {top bot : Nat} {n : Int} {x : Vz.Cl} {G' : Nat → Nat} (h : GridAt w0 gp B cap G K D) (htb : top ≤ bot) (hb : bot < D.R)
    (hI : MovInv w0 (bot + 1 - top) n D.C x (rowV (fun j => G (top + j)) (fun j => K (top + j)) D.C) (bot + 1 - top) G' w2)
    (hr : RowC w3 B 88 cap D.R (fun i => if top ≤ i ∧ i < top + (bot + 1 - top) then movedV (bot + 1 - top) n D.C (rowV (fun j => G (top + j)) (fun j => K (top + j)) D.C) G' (i - top) else rowV G K D.C i))
    (ho : ∀ b, b ≠ B → w3.heap[b]? = w2.heap[b]?) : ∃ F', Grid w3 gp F' (D.roll top bot n x) ∧ ∀ k, F' k → footG gp B G D.R k ∨ w0.heap.size ≤ k := by
  have hsame : ∀ b, b < w0.heap.size → b ≠ B → w3.heap[b]? = w0.heap[b]? := fun b hlt hne => (ho b hne).trans (hI.le.block b hlt)
  have hBlt := h.outer.lt
  have hGne : ∀ k, k < D.R → G k ≠ B := fun k hk e => by
    obtain ⟨c, hc, _⟩ := h.outer
    exact (h.row k hk).ne_of hc (by decide) e
  have hlt : ∀ {i k}, Vz.rollAt top bot n i = some k → i < D.R → k < D.R := fun hk hi => Vz.rollAt_lt hk hb hi
  have hnew : ∀ {i}, Vz.rollAt top bot n i = none → w0.heap.size < G' (i - top) ∧ RowC w2 (G' (i - top)) 24 (D.C * 4) (D.C * 4) (Vz.flatC fun _ => x) := fun {i} hk => by
    obtain ⟨h1, h2, h3⟩ := rollAt_new hk
    exact ⟨hI.ge _ (by omega) h3, hI.row _ (by omega) h3⟩
  refine ⟨footG gp B (fun i => match Vz.rollAt top bot n i with | none => G' (i - top) | some k => G k) D.R, ⟨B, cap, _, fun i => match Vz.rollAt top bot n i with | none => D.C | some k => K k, ⟨h.may, ?_, ?_, ?_, ?_⟩, fun k => Iff.rfl⟩, ?_⟩
  · refine (hsame gp (block_lt h.box) (fun e => ?_)).trans h.box
    obtain ⟨c, hc, _⟩ := h.outer
    have hbx := h.box
    rw [e, hc] at hbx
    injection hbx with hbx
    injection hbx with _ hbx
    cases hbx
  · refine hr.congr fun i hi => ?_
    by_cases hin : top ≤ i ∧ i ≤ bot
    · rw [if_pos ⟨hin.1, by omega⟩]
      cases hk : Vz.rollAt top bot n i with
      | none =>
        obtain ⟨h1, h2, h3⟩ := rollAt_new hk
        unfold movedV rowV
        simp only [h3, if_true, hk]
        rfl
      | some k =>
        obtain ⟨h1, h2⟩ := rollAt_old hk hin
        unfold movedV rowV
        simp only [h1, hk, ← h2]
        rfl
    · rw [if_neg (by omega)]
      unfold rowV
      simp only [rollAt_out hin]
      rfl
  · intro i hi
    cases hk : Vz.rollAt top bot n i with
    | none =>
      simp only [hk]
      have := (hnew hk)
      refine (this.2.of_block (ho _ (by omega))).congr fun q hq => ?_
      unfold Vz.flatC Vz.Gd.roll
      simp only [hk]
    | some k =>
      simp only [hk]
      have hkl := hlt hk hi
      have hrk := h.row k hkl
      refine (hrk.of_block (hsame _ hrk.lt (hGne k hkl))).congr fun q hq => ?_
      unfold Vz.flatC Vz.Gd.roll
      simp only [hk]
  · intro i j hi hj e
    cases hki : Vz.rollAt top bot n i with
    | none =>
      cases hkj : Vz.rollAt top bot n j with
      | none =>
        simp only [hki, hkj] at e
        obtain ⟨a1, a2, a3⟩ := rollAt_new hki
        obtain ⟨b1, b2, b3⟩ := rollAt_new hkj
        have := hI.inj _ _ (by omega) (by omega) a3 b3 e
        omega
      | some k =>
        simp only [hki, hkj] at e
        have := (hnew hki).1
        have := (h.row k (hlt hkj hj)).lt
        omega
    | some k =>
      cases hkj : Vz.rollAt top bot n j with
      | none =>
        simp only [hki, hkj] at e
        have := (hnew hkj).1
        have := (h.row k (hlt hki hi)).lt
        omega
      | some l =>
        simp only [hki, hkj] at e
        have := h.inj k l (hlt hki hi) (hlt hkj hj) e
        subst this
        exact Vz.rollAt_inj hki hkj
  · intro k hk
    rcases hk with rfl | rfl | ⟨i, hi, rfl⟩
    · exact .inl (.inl rfl)
    · exact .inl (.inr (.inl rfl))
    · dsimp only
      cases hki : Vz.rollAt top bot n i with
      | none =>
        have := (hnew hki).1
        exact .inr (by simp only; omega)
      | some k => exact .inl (.inr (.inr ⟨k, hlt hki hi, rfl⟩))

theorem cs_len (m : Nat) (f : Nat → Value) : ((List.range m).map f).length = m * 1 := by simp
theorem cs_one (m n : Nat) (nn : Int) (C : Nat) (Gs Ks G' : Nat → Nat) : ∀ v ∈ (List.range m).map (movedV n nn C (rowV Gs Ks C) G'), v.oneCell' = true := by
  intro v hv
  obtain ⟨j, _, rfl⟩ := List.mem_map.1 hv
  unfold movedV rowV
  split <;> rfl
theorem cs_src {W : World} {b base cap : Nat} {e : TypeId} {m : Nat} {f : Nat → Value} (h : W.ownsRow base e 1 (.slice (some ⟨b, 0, none⟩) m cap) m ((List.range m).map f)) : ∀ (j : Nat) (v : Value), ((List.range m).map f)[j]? = some v → W.cell? ((⟨b, 0, none⟩ : Addr).add j) = some v := by
  intro j v hj
  have hr := RowC.of_own h
  have hlt : j < m := by
    have := (List.getElem?_eq_some_iff.1 hj).1
    simpa using this
  rw [add_none, Nat.zero_add, hr.cell hlt]
  simp only [List.getD, hj, Option.getD_some]
theorem cs_get (m top : Nat) (f : Nat → Value) (f0 : Nat → Value) (i : Nat) : (if top ≤ i ∧ i < top + m then f (i - top) else f0 i) = if top ≤ i ∧ i < top + ((List.range m).map f).length then ((List.range m).map f).getD (i - top) undef else f0 i := by
  rw [show ((List.range m).map f).length = m by simp]
  split
  · rename_i h
    simp [List.getD, show i - top < m by omega]
  · rfl
theorem pos2 (w : World) (a b : Obj) (p q : Int) : (∀ k, k < 2 → (((w.alloc a).alloc b).alloc (.cells #[.int .i64 p, .int .i64 0, .int .i64 q, .int .i64 0] 30)).cell? ⟨w.heap.size + 1 + 1, k * 2, none⟩ = some (.int .i64 (if k = 0 then (⟨p, 0⟩ : Vz.Ps) else ⟨q, 0⟩).row) ∧ (((w.alloc a).alloc b).alloc (.cells #[.int .i64 p, .int .i64 0, .int .i64 q, .int .i64 0] 30)).cell? ⟨w.heap.size + 1 + 1, k * 2 + 1, none⟩ = some (.int .i64 (if k = 0 then (⟨p, 0⟩ : Vz.Ps) else ⟨q, 0⟩).col)) := by
  have h := heap_alloc_new ((w.alloc a).alloc b) (.cells #[.int .i64 p, .int .i64 0, .int .i64 q, .int .i64 0] 30)
  have e : ((w.alloc a).alloc b).heap.size = w.heap.size + 1 + 1 := by simp
  rw [e] at h
  intro k hk
  obtain rfl | rfl : k = 0 ∨ k = 1 := by omega
  · exact ⟨cell_row h 0, cell_row h 1⟩
  · exact ⟨cell_row h 2, cell_row h 3⟩
set_option maxRecDepth 10000 in
set_option maxHeartbeats 4000000 in
theorem groll_ok (gp : Nat) (F : Nat → Prop) (D : Vz.Gd) (top bot : Nat) (n : Int) (x : Vz.Cl) (w : World) (h : Grid w gp F D) (htb : top ≤ bot) (hb : bot < D.R) (hn : -100000 ≤ n ∧ n ≤ 100000) :
    Calls Tryz.prog 107 #[.pointer (some ⟨gp, 0, none⟩), .int .i64 top, .int .i64 bot, .int .i64 n, .agg #[.int .i32 x.g, .int .i64 x.a, .bool x.gd, .int .i64 x.m]] w fun e w' => e = .returned (.int .i64 0) ∧ (∃ F', Grid w' gp F' (D.roll top bot n x) ∧ ∀ k, F' k → F k ∨ w.heap.size ≤ k) ∧ Keeps F w w' := by
  obtain ⟨m1, m2, m3, m4⟩ := h.may
  have HTH := Lib.hid (fun (W : World) (hb' : Below w.heap.size w W) (b : Nat) (hl : ∀ k, k < 2 → W.cell? ⟨b, k * 2, none⟩ = some (.int .i64 (if k = 0 then (⟨top, 0⟩ : Vz.Ps) else ⟨bot, 0⟩).row) ∧ W.cell? ⟨b, k * 2 + 1, none⟩ = some (.int .i64 (if k = 0 then (⟨top, 0⟩ : Vz.Ps) else ⟨bot, 0⟩).col)) =>
    there_yes gp b F D 2 (fun k => if k = 0 then ⟨top, 0⟩ else ⟨bot, 0⟩) W (h.below hb') (by decide) (fun j hj => by obtain rfl | rfl : j = 0 ∨ j = 1 := (by omega); (exact ⟨Int.natCast_nonneg _, by simp; omega, Int.le_refl _, by simp; omega⟩); (exact ⟨Int.natCast_nonneg _, by simp; omega, Int.le_refl _, by simp; omega⟩)) hl)
  have H := Lib.hid h
  have hgp : gp < w.heap.size := block_lt h.choose_spec.choose_spec.choose_spec.choose_spec.1.box
  clear h
  go_enter Tryz.func107, Tryz.ntmps107
  have hmf : ∀ (fn : Fn) (first cap : Array Value) (w : World), (Instr.makeFunc fn first cap).run Tryz.prog w = .ok (.func fn first cap) w := fun _ _ _ _ => rfl
  go_upto_region 7 with (go_at_call 85; refine (HTH.out _ (Grows.below ((((Grows.refl _).alloc _).alloc _).alloc _)) _ (pos2 _ _ _ _ _)).mono ?_; rintro e w1 ⟨rfl, hb1⟩; obtain ⟨x0, x1, x2, hb⟩ := box3 hb1; have HB1 := Lib.hid hb; have X0 := Lib.hid x0; have X1 := Lib.hid x1; clear hb1 hb x0 x1 x2)
  obtain ⟨B, cap, G, K, hA, hF⟩ := H.out.below HB1.out
  have hlt1 : w.heap.size + 1 < w1.heap.size := block_lt X1.out
  have hBl := hA.outer.lt
  have hgl : gp < w1.heap.size := block_lt hA.box
  have hcR : D.R ≤ cap := hA.outer.le
  have HC : Hid (∀ W, Below w1.heap.size w1 W → W.cell? ⟨w.heap.size, 0, none⟩ = some (.pointer (some ⟨gp, 0, none⟩)) ∧ W.cell? ⟨gp, 0, none⟩ = some (.slice (some ⟨B, 0, none⟩) D.R cap)) := fun W hb => ⟨(hb.cell (p := ⟨w.heap.size, 0, none⟩) (by show w.heap.size < _; omega)).trans (cell_row X0.out 0), (hb.cell (p := ⟨gp, 0, none⟩) hgl).trans hA.head⟩
  have hsl1 : ∀ W : World, Sem.run Tryz.prog (Instr.slice 60 (.slice (some ⟨B, 0, none⟩) D.R cap) (some (.int .i64 (top : Int))) none none) W = .ok (.slice (some ⟨B, top, none⟩) (D.R - top) (cap - top)) W := fun W => by
    have := run_cut_from (P := Tryz.prog) Tryz.underlying60 rowSize W B 0 D.R cap top (by omega) (by omega)
    rwa [Nat.zero_add, Nat.mul_one] at this
  have hsl2 : ∀ W : World, Sem.run Tryz.prog (Instr.slice 60 (.slice (some ⟨B, 0, none⟩) D.R cap) (some (.int .i64 (top : Int))) (some (.int .i64 ((bot : Int) + 1))) none) W = .ok (.slice (some ⟨B, top, none⟩) (bot + 1 - top) (cap - top)) W := fun W => by
    have := run_cut_both (P := Tryz.prog) Tryz.underlying60 rowSize W B 0 D.R cap top (bot + 1) (by omega) (by omega) (by omega)
    rw [Nat.zero_add, Nat.mul_one, show ((bot + 1 : Nat) : Int) = (bot : Int) + 1 by omega] at this
    exact this
  have hbw : IntKind.i64.wrap ((bot : Int) + 1) = (bot : Int) + 1 := wrap_in (by omega) (by omega)
  have HD : Hid (Below w1.heap.size w1 w1.drew) := (Below.refl _ _).drew
  have HMV := Lib.hid (moved_rows B top (bot + 1 - top) (cap - top) (w.heap.size + 1) w.heap.size n x D.C (fun j => G (top + j)) (fun j => K (top + j)) w1.drew (by omega) hn (fun j hj => hA.line (i := top + j) (by omega)) (fresh_any (w.heap.size + 1) w.heap.size gp x F D w1.drew ⟨B, cap, G, K, hA.of_blocks (fun _ _ => rfl), hF⟩ X1.out (HC.out _ HD.out).1))
  have HA := Lib.hid hA
  have HF := Lib.hid hF
  have HQ : Hid (Nat.min (bot + 1 - top) (D.R - top) = bot + 1 - top) := Nat.min_eq_left (by omega)
  have HTB := Lib.hid htb
  have HBR := Lib.hid hb
  clear hA hF hn htb hb
  refine wp_region_noPanic ?_
  refine wp_region_k (S := fun W' : World => Below w1.heap.size w1 W') 17 (by kernel_rfl) (HD.out) (fun hHeld => ?_)
  refine wpAnyK_take (i := 0) (v := ?_) [5, 3, 2, 1] rfl (by kernel_rfl) rfl (by kernel_rfl) (by kernel_rfl) (by kernel_rfl) (by kernel_rfl) (fun _ _ _ h => h) (Or.inl ⟨by rfl, ?hy1⟩) hHeld ?_
  case hy1 => (intro W hSw; refine Or.inl ?_; obtain ⟨q0, q1⟩ := HC.out _ hSw; go_simp; try with_reducible rfl)
  try simp only [Act.put, List.getElem_toArray, List.getElem_cons_zero, List.getElem_cons_succ, List.setIfInBounds_toArray, List.set_cons_zero, List.set_cons_succ]
  refine wpAnyK_pure (i := 1) (v := ?_) rfl rfl (by kernel_rfl) (by kernel_rfl) (by kernel_rfl) (by kernel_rfl) (fun _ _ _ h => h) (Or.inl ⟨by rfl, ?hy2⟩) (fun _ => hHeld) ?_
  case hy2 => (intro W hSw; refine Or.inl ?_; go_simp; try with_reducible rfl)
  try simp only [Act.put, List.getElem_toArray, List.getElem_cons_zero, List.getElem_cons_succ, List.setIfInBounds_toArray, List.set_cons_zero, List.set_cons_succ]
  refine wpAnyK_pure (i := 2) (v := ?_) rfl rfl (by kernel_rfl) (by kernel_rfl) (by kernel_rfl) (by kernel_rfl) (fun _ _ _ h => h) (Or.inl ⟨by rfl, ?hy3⟩) (fun _ => hHeld) ?_
  case hy3 => (intro W hSw; refine Or.inl ?_; go_simp; try with_reducible rfl)
  try simp only [Act.put, List.getElem_toArray, List.getElem_cons_zero, List.getElem_cons_succ, List.setIfInBounds_toArray, List.set_cons_zero, List.set_cons_succ]
  refine wpAnyK_take (i := 3) (v := ?_) [5] rfl (by kernel_rfl) rfl (by kernel_rfl) (by kernel_rfl) (by kernel_rfl) (by kernel_rfl) (fun _ _ _ h => h) (Or.inl ⟨by rfl, ?hy4⟩) hHeld ?_
  case hy4 => (intro W hSw; refine Or.inl ?_; obtain ⟨q0, q1⟩ := HC.out _ hSw; go_simp; try with_reducible rfl)
  try simp only [Act.put, List.getElem_toArray, List.getElem_cons_zero, List.getElem_cons_succ, List.setIfInBounds_toArray, List.set_cons_zero, List.set_cons_succ]
  refine wpAnyK_pure (i := 4) (v := ?_) rfl rfl (by kernel_rfl) (by kernel_rfl) (by kernel_rfl) (by kernel_rfl) (fun _ _ _ h => h) (Or.inl ⟨by rfl, ?hy5⟩) (fun _ => hHeld) ?_
  case hy5 => (intro W hSw; refine Or.inl ?_; go_simp; try with_reducible rfl)
  try simp only [Act.put, List.getElem_toArray, List.getElem_cons_zero, List.getElem_cons_succ, List.setIfInBounds_toArray, List.set_cons_zero, List.set_cons_succ]
  refine wpAnyK_pure (i := 5) (v := ?_) rfl rfl (by kernel_rfl) (by kernel_rfl) (by kernel_rfl) (by kernel_rfl) (fun _ _ _ h => h) (Or.inl ⟨by rfl, ?hy6⟩) (fun _ => hHeld) ?_
  case hy6 => (intro W hSw; refine Or.inl ?_; go_simp; try with_reducible rfl)
  try simp only [Act.put, List.getElem_toArray, List.getElem_cons_zero, List.getElem_cons_succ, List.setIfInBounds_toArray, List.set_cons_zero, List.set_cons_succ]
  refine wpAnyK_take (i := 6) (v := ?_) [16, 13, 9, 8, 7] rfl (by kernel_rfl) rfl (by kernel_rfl) (by kernel_rfl) (by kernel_rfl) (by kernel_rfl) (fun _ _ _ h => h) (Or.inl ⟨by rfl, ?hy7⟩) hHeld ?_
  case hy7 => (intro W hSw; refine Or.inl ?_; obtain ⟨q0, q1⟩ := HC.out _ hSw; go_simp; try with_reducible rfl)
  try simp only [Act.put, List.getElem_toArray, List.getElem_cons_zero, List.getElem_cons_succ, List.setIfInBounds_toArray, List.set_cons_zero, List.set_cons_succ]
  refine wpAnyK_pure (i := 7) (v := ?_) rfl rfl (by kernel_rfl) (by kernel_rfl) (by kernel_rfl) (by kernel_rfl) (fun _ _ _ h => h) (Or.inl ⟨by rfl, ?hy8⟩) (fun _ => hHeld) ?_
  case hy8 => (intro W hSw; refine Or.inl ?_; go_simp; try with_reducible rfl)
  try simp only [Act.put, List.getElem_toArray, List.getElem_cons_zero, List.getElem_cons_succ, List.setIfInBounds_toArray, List.set_cons_zero, List.set_cons_succ]
  refine wpAnyK_pure (i := 8) (v := ?_) rfl rfl (by kernel_rfl) (by kernel_rfl) (by kernel_rfl) (by kernel_rfl) (fun _ _ _ h => h) (Or.inl ⟨by rfl, ?hy9⟩) (fun _ => hHeld) ?_
  case hy9 => (intro W hSw; refine Or.inl ?_; go_simp; try with_reducible rfl)
  try simp only [Act.put, List.getElem_toArray, List.getElem_cons_zero, List.getElem_cons_succ, List.setIfInBounds_toArray, List.set_cons_zero, List.set_cons_succ]
  refine wpAnyK_take (i := 9) (v := ?_) [16, 13] rfl (by kernel_rfl) rfl (by kernel_rfl) (by kernel_rfl) (by kernel_rfl) (by kernel_rfl) (fun _ _ _ h => h) (Or.inl ⟨by rfl, ?hy10⟩) hHeld ?_
  case hy10 => (intro W hSw; refine Or.inl ?_; obtain ⟨q0, q1⟩ := HC.out _ hSw; go_simp; try with_reducible rfl)
  try simp only [Act.put, List.getElem_toArray, List.getElem_cons_zero, List.getElem_cons_succ, List.setIfInBounds_toArray, List.set_cons_zero, List.set_cons_succ]
  refine wpAnyK_pure (i := 10) (v := ?_) rfl rfl (by kernel_rfl) (by kernel_rfl) (by kernel_rfl) (by kernel_rfl) (fun _ _ _ h => h) (Or.inl ⟨by rfl, ?hy11⟩) (fun _ => hHeld) ?_
  case hy11 => (intro W hSw; refine Or.inl ?_; go_simp; try with_reducible rfl)
  try simp only [Act.put, List.getElem_toArray, List.getElem_cons_zero, List.getElem_cons_succ, List.setIfInBounds_toArray, List.set_cons_zero, List.set_cons_succ]
  refine wpAnyK_pure (i := 11) (v := ?_) rfl rfl (by kernel_rfl) (by kernel_rfl) (by kernel_rfl) (by kernel_rfl) (fun _ _ _ h => h) (Or.inl ⟨by rfl, ?hy12⟩) (fun _ => hHeld) ?_
  case hy12 => (intro W hSw; refine Or.inl ?_; go_simp; try with_reducible rfl)
  try simp only [Act.put, List.getElem_toArray, List.getElem_cons_zero, List.getElem_cons_succ, List.setIfInBounds_toArray, List.set_cons_zero, List.set_cons_succ]
  refine wpAnyK_pure (i := 12) (v := ?_) rfl rfl (by kernel_rfl) (by kernel_rfl) (by kernel_rfl) (by kernel_rfl) (fun _ _ _ h => h) (Or.inl ⟨by rfl, ?hy13⟩) (fun _ => hHeld) ?_
  case hy13 => (intro W hSw; refine Or.inl ?_; go_simp; try with_reducible rfl)
  try simp only [Act.put, List.getElem_toArray, List.getElem_cons_zero, List.getElem_cons_succ, List.setIfInBounds_toArray, List.set_cons_zero, List.set_cons_succ]
  refine wpAnyK_pure (i := 13) (v := ?_) rfl rfl (by kernel_rfl) (by kernel_rfl) (by kernel_rfl) (by kernel_rfl) (fun _ _ _ h => h) (Or.inl ⟨by rfl, ?hy14⟩) (fun _ => hHeld) ?_
  case hy14 => (intro W hSw; refine Or.inl ?_; go_simp; try with_reducible rfl)
  try simp only [Act.put, List.getElem_toArray, List.getElem_cons_zero, List.getElem_cons_succ, List.setIfInBounds_toArray, List.set_cons_zero, List.set_cons_succ]
  refine wpAnyK_pure (i := 14) (v := ?_) rfl rfl (by kernel_rfl) (by kernel_rfl) (by kernel_rfl) (by kernel_rfl) (fun _ _ _ h => h) (Or.inl ⟨by rfl, ?hy15⟩) (fun _ => hHeld) ?_
  case hy15 => (intro W hSw; refine Or.inl ?_; go_simp; try with_reducible rfl)
  try simp only [Act.put, List.getElem_toArray, List.getElem_cons_zero, List.getElem_cons_succ, List.setIfInBounds_toArray, List.set_cons_zero, List.set_cons_succ]
  refine wpAnyK_pure (i := 15) (v := ?_) rfl rfl (by kernel_rfl) (by kernel_rfl) (by kernel_rfl) (by kernel_rfl) (fun _ _ _ h => h) (Or.inl ⟨by rfl, ?hy16⟩) (fun _ => hHeld) ?_
  case hy16 => (intro W hSw; refine Or.inl ?_; go_simp; try with_reducible rfl)
  try simp only [Act.put, List.getElem_toArray, List.getElem_cons_zero, List.getElem_cons_succ, List.setIfInBounds_toArray, List.set_cons_zero, List.set_cons_succ]
  refine wpAnyK_ready (rs := [16]) (by kernel_rfl) (by simp) ?_
  refine AllReadyK.cons rfl (fun KQ hKQ => ?_) AllReadyK.nil
  go_simp
  go_at_call 145
  refine HMV.out.mono ?_
  rintro e w2 ⟨G', rfl, hI⟩
  have HI := Lib.hid hI
  clear hI
  go_wp2_with fail
  refine hKQ.out _ _ (Below.later hHeld HI.out.le hHeld.size) (fun hHeld2 => ?_)
  clear hHeld hKQ KQ
  have hHeld := hHeld2
  clear hHeld2
  try simp only [Act.put, List.getElem_toArray, List.getElem_cons_zero, List.getElem_cons_succ, List.setIfInBounds_toArray, List.set_cons_zero, List.set_cons_succ]
  refine wpAnyK_ready (rs := [17]) (by kernel_rfl) (by simp) ?_
  refine AllReadyK.free rfl (by kernel_rfl) (fun KQ hKQ => ?_) AllReadyK.nil
  rw [if_pos (by rfl)]
  refine wp_copy_rowC (.tmp 32) (.tmp 43) 60 60 rfl 88 1 Tryz.underlying60 rowSize B top (D.R - top) (cap - top) ⟨w1.heap.size, 0, none⟩ (bot + 1 - top) (bot + 1 - top) rfl rfl (bot + 1 - top) HQ.out 88 cap D.R (rowV G K D.C) (HA.out.outer.of_block (HI.out.le.block B hBl)) ((List.range (bot + 1 - top)).map (movedV (bot + 1 - top) n D.C (rowV (fun j => G (top + j)) (fun j => K (top + j)) D.C) G')) (cs_len _ _) (cs_src HI.out.own) (cs_one _ _ _ _ _ _ _) (by have := HBR.out; have := HTB.out; omega) (by have := HBR.out; have := HTB.out; rw [cs_len]; omega) D.R (.inl (Nat.le_refl _)) hcR _ (fun i hi => cs_get (bot + 1 - top) top _ _ i) ?_
  intro w3 hr3 ho3 hb3 hz3
  have HR3 := Lib.hid hr3
  have HO3 := Lib.hid ho3
  clear hr3 ho3
  refine hKQ.out _ _ ?_
  clear hKQ KQ
  try simp only [Act.put, List.getElem_toArray, List.getElem_cons_zero, List.getElem_cons_succ, List.setIfInBounds_toArray, List.set_cons_zero, List.set_cons_succ]
  refine wpAnyK_done (by kernel_rfl) ?_ _
  refine NoPanic.normal ?_
  go_wp2_with fail
  go_ret
  obtain ⟨F', hG, hF'⟩ := Grid.rolled (HA.out.of_blocks (W' := w1.drew) (fun _ _ => rfl)) HTB.out HBR.out HI.out HR3.out HO3.out
  refine ⟨rfl, ⟨F', hG, fun k hk => (hF' k hk).imp (fun h => (HF.out k).2 h) (fun h => ?_)⟩, ?_⟩
  · have := HB1.out.size
    have h' : w1.heap.size ≤ k := h
    omega
  · have hk1 : Keeps F w w1 := Keeps.of_below HB1.out
    have hk2 : Keeps F w1 w2 := Keeps.of_below (Below.later HD.out HI.out.le (Nat.le_refl _))
    have hk3 : Keeps F w2 w3 := ⟨hb3.os, hb3.tape, hb3.output, hb3.size, fun k hk hn => HO3.out k (fun e => hn ((HF.out k).2 (.inr (.inl e))))⟩
    exact (hk1.trans hk2 fun k hk => .inl hk).trans hk3 fun k hk => .inl hk
end Go.Proofs.YtbnkfiaggehmgaaGreatDoor
