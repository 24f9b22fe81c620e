import Derived.Test.YtliacdaddncmaaaGreatDoorSnPrA
import Derived.Test.YtliacdaddncmaaaGreatDoorLJ

/- What Print's walk stands on: where it stands, String, the range over the runs. -/
namespace Go.Proofs.YtliacdaddncmaaaGreatDoor
open Go.RowKit
set_option linter.unusedSimpArgs false
set_option linter.unusedVariables false
attribute [local go_sem] alloc_drewN setCell_drewN World.cell?_alloc_some frozen_alloc_some size_f0 size_f1 Oper.semAt_some

theorem run_store_func {P : Program} {w : World} (a : Addr) (m : Mode) (f : Fn) (c d : Array Value) : (store a (.func f c d) m).run P w = stored P w a (.func f c d) m := run_store P w a _ m rfl
attribute [local go_sem] run_store_func
/-- Where Print stands: the shot's box, the text so far, and put. -/
structure PrI (w : World) (v : Array Value) (l : List UInt8) (W : World) : Prop where
  bel : Below w.heap.size w W
  box : W.heap[w.heap.size]? = some (.cells v 30 (0, 0))
  bld : BuildL (w.heap.size + 1) (w.heap.size + 1) l W
  clo : W.heap[w.heap.size + 1 + 1]? = some (.cells #[.func (.func 38) #[] #[.pointer (some ⟨w.heap.size + 1, 0, none⟩)]] 87 (0, 0))
section
variable {w W W' : World} {v : Array Value} {l : List UInt8}
theorem PrI.below (h : PrI w v l W) (hb : Below W.heap.size W W') : PrI w v l W' :=
  ⟨Below.later h.bel hb h.bel.size, (hb.block _ (block_lt h.box)).trans h.box, h.bld.below hb, (hb.block _ (block_lt h.clo)).trans h.clo⟩
theorem PrI.put (h : PrI w v l W) {g n cap : Nat} {xs : List PutX} (hg : W.heap[g]? = some (.cells (xs.map PutX.val).toArray 20 (0, 0))) (hn : xs.length = n) (hn9 : n ≤ 100) (hx : ∀ x ∈ xs, x.ok) (hlen : l.length + (putB xs).length ≤ 1000000) :
    Calls Tryz.prog 38 #[.slice (some ⟨g, 0, none⟩) n cap, .pointer (some ⟨w.heap.size + 1, 0, none⟩)] W fun e W' => e = .returned (.tuple #[]) ∧ PrI w v (l ++ putB xs) W' ∧ FrU (w.heap.size + 1) W W' ∧ W.heap.size ≤ W'.heap.size := by
  have hs := block_lt h.clo
  have hgb : g ≠ w.heap.size + 1 := fun e => by
    subst e
    rcases h.bld with h' | h'
    · obtain ⟨_, v', h1, _⟩ := h'
      rw [h1] at hg
      injection hg with hg
      injection hg with e1 e2 e3
      exact absurd e2 (by decide)
    · obtain ⟨_, v', h1, _⟩ := h'
      rw [h1] at hg
      injection hg with hg
      injection hg with e1 e2 e3
      exact absurd e2 (by decide)
  refine (put_ok (cap := cap) h.bld (by omega) hg hn hn9 hgb hx hlen).mono fun e W' h' => ⟨h'.1, ⟨h.bel.trans (h'.2.2.1.mono (by omega)), ?_, h'.2.1, ?_⟩, h'.2.2.2, h'.2.2.1.size⟩
  · exact (h'.2.2.1.block _ (by omega)).trans h.box
  · exact h'.2.2.2 _ _ h.clo (by omega) (fun c t fr e => by injection e with e1 e2 e3; rw [← e2]; decide)
theorem PrI.cells {a b c d e f i j k : Value} (h : PrI w #[a, b, c, d, e, f, i, j, k] l W) : (W.cell? ⟨w.heap.size, 0, none⟩ = some a ∧ W.cell? ⟨w.heap.size, 1, none⟩ = some b ∧ W.cell? ⟨w.heap.size, 2, none⟩ = some c ∧ W.cell? ⟨w.heap.size, 3, none⟩ = some d ∧ W.cell? ⟨w.heap.size, 4, none⟩ = some e ∧ W.cell? ⟨w.heap.size, 5, none⟩ = some f ∧ W.cell? ⟨w.heap.size, 6, none⟩ = some i ∧ W.cell? ⟨w.heap.size, 7, none⟩ = some j ∧ W.cell? ⟨w.heap.size, 8, none⟩ = some k) ∧ W.cell? ⟨w.heap.size + 1 + 1, 0, none⟩ = some (.func (.func 38) #[] #[.pointer (some ⟨w.heap.size + 1, 0, none⟩)]) := ⟨(row9 h.box).1, cell_row h.clo 0⟩
end
theorem BuildL.own {B b : Nat} {l : List UInt8} {W W' : World} {row : Option Nat} {n : Nat} (h : BuildL B b l W) (hg : W.grownBy W' row) (hr : ∀ r, row = some r → n ≤ r ∧ ∃ o : Obj, W.heap[r]? = some o ∧ o.isCells = false) : BuildL B b l W' := by
  have key : ∀ p, Lib.BuilderAt 72 5 B b p (Lib.byteCells l) W → Lib.BuilderAt 72 5 B b p (Lib.byteCells l) W' := fun p h => by
    obtain ⟨hB, v, h1, h2, h3⟩ := h
    refine ⟨hB, v, cells_kept hg hr h1, ⟨h2.1, ?_⟩, h3⟩
    rcases h2.2 with h' | ⟨g, cap, cur, hv, hB, hg', rest⟩
    · exact .inl h'
    · exact .inr ⟨g, cap, cur, hv, hB, cells_kept hg hr hg', rest⟩
  exact h.imp (key _) (key _)
theorem PrI.own {w W W' : World} {v : Array Value} {l : List UInt8} {row : Option Nat} {n : Nat} (h : PrI w v l W) (hn : w.heap.size ≤ n) (hg : W.grownBy W' row) (hr : ∀ r, row = some r → n ≤ r ∧ ∃ o : Obj, W.heap[r]? = some o ∧ o.isCells = false) : PrI w v l W' :=
  ⟨below_own hn h.bel hg hr, cells_kept hg hr h.box, h.bld.own hg hr, cells_kept hg hr h.clo⟩
theorem heap_freeze_other (w : World) (p : Addr) (n : Nat) {k : Nat} (h : k ≠ p.block) : (w.freeze p n).heap[k]? = w.heap[k]? := by
  unfold World.freeze
  split
  · rfl
  · simp only [Array.getElem?_modify]
    rw [if_neg (by omega)]
set_option maxHeartbeats 2000000 in
set_option maxRecDepth 100000 in
/-- String, with what it leaves. -/
theorem string_k {B b : Nat} {l : List UInt8} {w : World} (h : BuildL B b l w) (h0 : l ≠ []) :
    Calls Tryz.prog 29 #[.pointer (some ⟨b, 0, none⟩)] w fun e w' => e = .returned (.string ⟨l.toArray⟩) ∧ Below B w w' ∧ FrU b w w' := by
  obtain ⟨p, hB, v, hbk, hown, hne⟩ : ∃ p, Lib.BuilderAt 72 5 B b p (Lib.byteCells l) w := by
    rcases h with h | h
    · exact ⟨_, h⟩
    · exact ⟨_, h⟩
  have hl0 : l.length ≠ 0 := by simpa using h0
  rw [Lib.byteCells_length] at hown
  obtain ⟨g, cap, cur, rfl, hbg, hg, hnc, hcm, hcs, htake⟩ : ∃ g cap cur, v = .slice (some ⟨g, 0, none⟩) l.length cap ∧ B ≤ g ∧ w.heap[g]? = some (.cells cur 5 (0, 0)) ∧ l.length ≤ cap ∧ cap ≤ maxLen ∧ cur.size = cap * 1 ∧ cur.toList.take (l.length * 1) = Lib.byteCells l := by
    rcases hown.2 with ⟨_, hz⟩ | ⟨g, cap, cur, hv, r⟩
    · exact absurd hz hl0
    · exact ⟨g, cap, cur, hv, r⟩
  have c1 : w.drew.cell? ⟨b, 1, none⟩ = some (.slice (some ⟨g, 0, none⟩) l.length cap) := cell_row (show w.drew.heap[b]? = _ from hbk) 1
  have hSD : (Builtin.unsafeSliceData_ #[70] 101 #[.slice (some ⟨g, 0, none⟩) l.length cap]).run Tryz.prog w.drew = .ok (.pointer (some ⟨g, 0, none⟩)) w.drew := Lib.run_unsafeSliceData_row _ _ _ _ _ _ (by omega)
  have hUS : (Builtin.unsafeString_ #[101, 3] 9 #[.pointer (some ⟨g, 0, none⟩), .int .i64 l.length]).run Tryz.prog w.drew = .ok (.string ⟨l.toArray⟩) (w.drew.freeze ⟨g, 0, none⟩ l.length) := by
    refine Lib.run_unsafeString_row w.drew 101 3 9 5 (by kernel_rfl) (by kernel_rfl) g cur.size (by have hg' : w.drew.heap[g]? = some (.cells cur 5 (0, 0)) := hg; simp [World.shape?, hg']) l h0 (by omega) (by unfold maxLen at hcm; omega) ?_
    intro j x hx
    exact hown.cells (g := g) rfl j (.int .u8 x.toNat) (by simp [Lib.byteCells, hx])
  have HF : Hid (Below B w (w.drew.freeze ⟨g, 0, none⟩ l.length) ∧ FrU b w (w.drew.freeze ⟨g, 0, none⟩ l.length)) := ⟨Lib.below_freeze (Below.drew (Below.refl B w)) (p := ⟨g, 0, none⟩) hbg _, fun k o hk _ ho => (heap_freeze_other _ _ _ (fun e => by
    subst e
    have h1 : some o = some _ := hk.symm.trans hg
    injection h1 with h1
    exact ho cur 5 (0, 0) h1 rfl)).trans hk⟩
  have mixed : Tryz.prog.follows .mixedOrders = true := by kernel_rfl
  clear hown htake hcs hcm hnc hg hbk hne h
  go_enter Tryz.func29, Tryz.ntmps29
  go_wp2
  go_region_o
  all_goals (go_wp2; go_ret; exact ⟨rfl, HF.out⟩)
theorem headT_ne (x : Sh) (l : List UInt8) : headT x ++ l ≠ [] := fun e => by
  have := congrArg List.length e
  unfold headT at this
  rw [List.length_append, List.length_append, List.length_append, show (putB [.str [10]]).length = 1 from rfl, List.length_nil] at this
  omega
/-- wpIn_rangeFunc_T where the value is put into a box of its own (slot d). -/
theorem wpIn_rangeFunc_B {F : Fence} {n : Nat} {P : Program} {α : Type} {g : Operand} {ps : Array Tmp} {assign body : Code} {Q : Exit → Act → World → Prop} {a : Act} {w : World} (d : Nat)
    (hro : F.round = none) (h1 : 1 ≤ n) {gf : Nat} {lb : Array Value} (hg : a.eval g = .func (.func gf) #[] lb) (hFg : F.fn gf) (eg : ∀ args w, (callFunc gf args).run P w = .ok (.enter gf args) w)
    {encs : α → Array Value} {S Sp : List α → Prop} {T : List α → α → Prop} {Gd : World → Prop} {w0 : World} (hseq : SeqStopsT F (n - 1) P gf lb encs (fun _ _ => True) S Sp (fun pre x _ => T pre x) Gd w0)
    (hb0 : Below w0.heap.size w0 w) (hps : ∀ x, (encs x).size = ps.size)
    (I : List α → World → Prop) (hI : OwnFrom w.heap.size I) (hGd : ∀ s A, I s A → Gd A) (h0 : I [] w) (box : α → Obj) (hbox : ∀ x, ∃ c t, box x = .cells c t (0, 0))
    (hassign : ∀ (l : Nat) (x : α) (W : World) (K : Act → World → Prop), K { tmps := ((ps.zip (encs x)).foldl (fun t (p, v) => t.setIfInBounds p v) a.tmps).setIfInBounds d (.pointer (some ⟨W.heap.size, 0, none⟩)), defers := [] } (W.alloc (box x)) →
      assign.wpIn (F.inRound l) (n - 1 - 1) P (Exit.then K (fun _ _ _ => False)) { tmps := (ps.zip (encs x)).foldl (fun t (p, v) => t.setIfInBounds p v) a.tmps, defers := [] } W)
    (hbody : ∀ (l : Nat) (pre : List α) (x : α) (b : Nat) (W : World), w.heap.size ≤ b → I pre W → T pre x → W.heap[b]? = some (box x) → body.wpIn (F.inRound l) (n - 1 - 1) P (ownPostG w.heap.size (fun _ _ => True) I (fun _ _ _ => False) (pre ++ [x]) W) { tmps := ((ps.zip (encs x)).foldl (fun t (p, v) => t.setIfInBounds p v) a.tmps).setIfInBounds d (.pointer (some ⟨b, 0, none⟩)), defers := [] } W)
    (hdone : ∀ (D : Nat) (xs : List α) (W : World), w.heap.size ≤ D → S xs → I xs W → W.heap[D]? = some (.deferred (some [])) → Q .normal { a with defers := { target := .collected D, args := #[] } :: a.defers } W) :
    (Code.rangeFunc g ps assign body).wpIn F n P Q a w :=
  wpIn_rangeFunc_T hro h1 hg hFg eg hseq (fun _ _ => trivial) (fun _ _ _ _ _ _ _ _ => trivial) hb0 hps I (fun _ _ _ => False) hI (fun _ _ _ _ _ h _ _ => h) (fun _ _ _ _ h _ _ => h) hGd h0
    (fun x b => { tmps := ((ps.zip (encs x)).foldl (fun t (p, v) => t.setIfInBounds p v) a.tmps).setIfInBounds d (.pointer (some ⟨b, 0, none⟩)), defers := [] }) (fun x W => W.alloc (box x)) (fun x b W => W.heap[b]? = some (box x))
    (fun x W => grown_of_below (below1 W _)) (fun _ _ => trivial) (fun x W => World.alloc_heap_new W _) (fun p A B row h hg hr => by
      obtain ⟨c, t, e⟩ := hbox p.1
      simp only at h ⊢
      rw [e] at h ⊢
      exact cells_kept hg hr h) hassign hbody hdone (fun _ _ _ _ _ _ h _ => h.elim)
def rnC (r : Rn) : Array Value := #[.int .i64 (r.row : Int), .int .i64 (r.col : Int), .int .i64 (r.len : Int), .int .i64 r.look, .bool r.gd, .string ⟨r.text.toArray⟩]
theorem runs_call (v : Array Value) (w : World) : Calls Tryz.prog 8 #[.agg v] w fun e w' => e = .returned (.func (.func 26) #[] #[.pointer (some ⟨w.heap.size, 0, none⟩)]) ∧ w' = w.alloc (.cells v 30) := by
  go_enter Tryz.func8, Tryz.ntmps8
  go_wp2_with fail
  go_ret
  exact ⟨rfl, rfl⟩
/-- The stops of a shot, read. -/
theorem stops_cell {B : Nat} {W : World} {sv : Value} {L : List Int} (h : W.ownsRow B 3 1 sv L.length (L.map (Value.int .i64))) : ∃ a c, sv = .slice a L.length c ∧ ∀ W', Below W.heap.size W W' → ∀ j, j < L.length → ∃ gs, a = some ⟨gs, 0, none⟩ ∧ W'.cell? ⟨gs, j, none⟩ = some (.int .i64 (L[j]?.getD 0)) := by
  rcases h.2 with ⟨hv, hz⟩ | ⟨g, cap, cur, hv, hB, hg, hr⟩
  · exact ⟨none, 0, by rw [hv, hz], fun W' _ j hj => by omega⟩
  · refine ⟨some ⟨g, 0, none⟩, cap, hv, fun W' hb j hj => ⟨g, rfl, ?_⟩⟩
    rw [Lib.cell_of_heap ((hb.block _ (block_lt hg)).trans hg)]
    obtain ⟨h1, h2, h3, h4⟩ := hr
    have e : (List.take (L.length * 1) cur.toList)[j]? = some (Value.int .i64 (L[j]?.getD 0)) := by rw [h4, List.getElem?_map, List.getElem?_eq_getElem hj]; rfl
    rw [List.getElem?_take, if_pos (by omega)] at e
    rw [← Array.getElem?_toList]
    exact e
/-- One word is put. -/
theorem PrI.word {w W : World} {v : Array Value} {l : List UInt8} (h : PrI w v l W) {g cap : Nat} (m : List UInt8) (hg : W.heap[g]? = some (.cells #[.iface 9 (.string ⟨m.toArray⟩)] 20 (0, 0))) (hl : l.length ≤ 900000) (hm : m.length ≤ 10) :
    Calls Tryz.prog 38 #[.slice (some ⟨g, 0, none⟩) 1 cap, .pointer (some ⟨w.heap.size + 1, 0, none⟩)] W fun e W' => e = .returned (.tuple #[]) ∧ PrI w v (l ++ putB [.str m]) W' ∧ FrU (w.heap.size + 1) W W' ∧ W.heap.size ≤ W'.heap.size :=
  h.put (xs := [.str m]) hg rfl (by decide) (fun x hx => by simp only [List.mem_cons, List.not_mem_nil, or_false] at hx; subst hx; trivial) (by rw [show (putB [.str m]).length = m.length by simp [putB, PutX.txt]]; omega)
/-- Print's contract. -/
def PrintOk : Prop := ∀ (x : Sh) (OB g cap : Nat) (sv : Value) (G K G' : Nat → Nat) (B : Nat) (w : World), ShP B w x OB g cap sv G K G' → x.S.D.may → x.S.D.R ≤ 20 → x.S.D.C ≤ 20 → x.S.pl.at_.inS x.S.D.R x.S.D.C → (∀ i j, CellOk (x.S.D.X i j)) → ∀ (t : TypeId) (fr : Nat × Nat), w.heap[1]? = some (.cells names12a t fr) →
  Calls Tryz.prog 14 #[.agg (shV x OB g cap sv)] w fun e w' => e = .returned (.string ⟨(printL x).toArray⟩) ∧ Below w.heap.size w w'
end Go.Proofs.YtliacdaddncmaaaGreatDoor
