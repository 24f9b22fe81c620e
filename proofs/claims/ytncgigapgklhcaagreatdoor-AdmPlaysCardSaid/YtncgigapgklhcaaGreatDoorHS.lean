import Derived.Test.YtncgigapgklhcaaGreatDoorHC
import Derived.Test.YtncgigapgklhcaaGreatDoorHR
import Derived.Test.YtncgigapgklhcaaGreatDoorHH
import Derived.RangeFuncCalls
import Derived.TacticsInMore
import Derived.LoopNIn
import Derived.LoopIn
import Derived.OwnWalkIn
import Derived.RangeFuncLeaves
import Derived.RangeFuncBound
import Derived.Laws.IdiomStrings
import Derived.Lib.BufferRead

set_option maxRecDepth 100000
set_option maxHeartbeats 16000000
namespace Go.Proofs.YtncgigapgklhcaaGreatDoor
open Go.RowKit
set_option linter.unusedSimpArgs false
set_option linter.unusedVariables false
/- A law for a range over a function that turns a block of its own between the rounds (a ring that is emptied): after XRangeT's. -/
section
open Go Go.RowKit
variable {F : Fence} {n : Nat} {P : Program}
def SeqStopsW {α : Type} (F : Fence) (n : Nat) (P : Program) (g : Nat) (lb : Array Value) (encs : α → Array Value) (Kp Wr : World → World → Prop) (S : List α → Prop) (T : List α → α → Prop) (Gb Ge : World → Prop) (w : World) : Prop :=
 ∀ (l : Nat) (J : List α → World → Prop) (W : World), Below w.heap.size w W → AbidesFrom W.heap.size J → (∀ s A A', J s A → Wr A A' → J s A') →
   (∀ pre x W1, J pre W1 → T pre x → YieldAt F (n - 1) P l (encs x) W1 fun e W' =>
     (e = .returned (.bool true) ∧ J (pre ++ [x]) W' ∧ Kp W1 W')) →
   J [] W → Gb W →
   CallsIn F n P g (#[.func (.yield l) #[] #[]] ++ lb) W fun e W' => (∃ v, e = .returned v) ∧ (∃ xs, S xs ∧ J xs W' ∧ Ge W')
theorem wpIn_rangeFunc_W {α : Type} {g : Operand} {ps : Array Tmp} {assign body : Code} {Q : Exit → Act → World → Prop} {a : Act} {w : World}
 (hro : F.round = none) (h1 : 1 ≤ n) {gf : Nat} {lb : Array Value} (hg : a.eval g = .func (.func gf) #[] lb) (hFg : F.fn gf) (eg : ∀ args w, (callFunc gf args).run P w = .ok (.enter gf args) w)
 {encs : α → Array Value} {Kp Wr : World → World → Prop} {S : List α → Prop} {T : List α → α → Prop} {Gb Ge : World → Prop} {w0 : World} (hseq : SeqStopsW F (n - 1) P gf lb encs Kp Wr S T Gb Ge w0)
 (hKt : ∀ {A B C : World}, Kp A B → Kp B C → Kp A C) (hKb : ∀ (W : World) (l : Nat) (o o' : Obj), w.heap.size ≤ l → W.heap[l]? = some o → o.isCells = false → o.isWalk = false → Kp W (W.putObj l o')) (hb0 : Below w0.heap.size w0 w) (hps : ∀ x, (encs x).size = ps.size)
 (I : List α → World → Prop) (hI : OwnFrom w.heap.size I) (hIW : ∀ s A A', I s A → Wr A A' → I s A') (hWr : ∀ A A' k, Wr A A' → w.heap.size ≤ k → k < A.heap.size → A'.heap[k]? = A.heap[k]?) (hGb : OwnFrom w.heap.size (fun (_ : Unit) W => Gb W)) (hGe : OwnFrom w.heap.size (fun (_ : Unit) W => Ge W)) (h0 : I [] w) (h0b : Gb w) (a₁ : α → Nat → Act) (mk : α → World → World) (Bx : α → Nat → World → Prop) (hmk : ∀ x (W : World), W.grownBy (mk x W) none) (hKm : ∀ x (W : World), Kp W (mk x W)) (hBx0 : ∀ x (W : World), Bx x W.heap.size (mk x W)) (hBxO : OwnFrom w.heap.size (fun (p : α × Nat) W => Bx p.1 p.2 W))
 (hassign : ∀ (l : Nat) (x : α) (W : World) (K : Act → World → Prop), K (a₁ x W.heap.size) (mk x W) →
   assign.wpIn (F.inRound l) (n - 1 - 1) P (Exit.then K (fun _ _ _ => False)) { tmps := (ps.zip (encs x)).foldl (fun t (p, v) => t.setIfInBounds p v) a.tmps, defers := [] } W)
 (hbody : ∀ (l : Nat) (pre : List α) (x : α) (b : Nat) (W : World), w.heap.size ≤ b → I pre W → T pre x → Bx x b W → body.wpIn (F.inRound l) (n - 1 - 1) P (ownPostG w.heap.size Kp I (fun _ _ _ => False) (pre ++ [x]) W) (a₁ x b) W)
 (hdone : ∀ (D : Nat) (xs : List α) (W : World), w.heap.size ≤ D → S xs → I xs W → Ge W → W.heap[D]? = some (.deferred (some [])) → Q .normal { a with defers := { target := .collected D, args := #[] } :: a.defers } W) :
 (Code.rangeFunc g ps assign body).wpIn F n P Q a w := by
 refine wpIn_rangeFunc ?_
 intro fn hfn
 rw [hro]
 obtain ⟨rec, hrec⟩ : ∃ rec : LoopState → Option Code → Loop, rec = fun st pe => { state := st, pending := pe, fn, tmps := a.tmps, params := ps, assign, body, defers := w.heap.size } := ⟨_, rfl⟩
 obtain ⟨W1, hW1⟩ : ∃ W1, (w.alloc (.deferred (some []))).alloc (.loop (rec .ready none)) = W1 := ⟨_, rfl⟩
 have hL1 : W1.heap[w.heap.size + 1]? = some (.loop (rec .ready none)) := by
  rw [← hW1]; have := World.alloc_heap_new (w.alloc (.deferred (some []))) (.loop (rec .ready none)); rwa [World.size_alloc] at this
 have hK1 : W1.heap[w.heap.size]? = some (.deferred (some [])) := by
  rw [← hW1]; exact (Below.heap_alloc _ _ _ (by simp)).trans (World.alloc_heap_new w _)
 have hI1 : I [] W1 := by rw [← hW1]; exact hI.alloc _ (hI.alloc _ h0)
 have hb1 : Below w0.heap.size w0 W1 := by
  rw [← hW1]; exact hb0.trans ((((Below.refl _ w).alloc (Nat.le_refl _) _).alloc (by simp) _).mono hb0.size)
 refine ⟨w.heap.size + 1, [{ target := .collected w.heap.size, args := #[] }], W1, { target := .fn (.func gf) lb, args := #[.func (.yield (w.heap.size + 1)) #[] #[]] }, W1, gf,
  #[.func (.yield (w.heap.size + 1)) #[] #[]] ++ lb, W1, ?_, ?_, ?_, ?_, fun _ => h1, ?_⟩
 · rw [← hW1, hrec]; exact run_enterLoop_outer _ _ _ _ _
 · simp only [resolve, hg]
   simp [go_sem]
 · intro f' hf'; simp [Target.leads] at hf'; subst hf'; exact hFg
 · simp [invoke, go_sem, eg]
 · -- THE ITERATOR's CONTRACT, AT THE CALLER's INVARIANT WITH THE TWO FACTS OF BOOK-KEEPING BESIDE IT
   have hnw : ∀ {A B : World} {row : Option Nat}, (∀ r, row = some r → W1.heap.size ≤ r ∧ ∃ o : Obj, A.heap[r]? = some o ∧ o.isWalk = true) → (∀ r, row = some r → w.heap.size ≤ r ∧ ∃ o : Obj, A.heap[r]? = some o ∧ o.isCells = false) :=
    fun hr r e => by obtain ⟨hB, o, ho, hw⟩ := hr r e; exact ⟨by rw [← hW1] at hB; simp at hB; omega, o, ho, Obj.not_cells_of_walk hw⟩
   refine (hseq (w.heap.size + 1)
    (fun pre W => I pre W ∧ W.heap[w.heap.size + 1]? = some (.loop (rec .ready none)) ∧ W.heap[w.heap.size]? = some (.deferred (some [])))
    W1 hb1
    (fun s A B row hs hg' hr => ⟨hI s A B row hs.1 hg' (hnw (B := B) hr), (grownBy_keeps hg' (fun r e => (hr r e).2) hs.2.1 rfl).trans hs.2.1, (grownBy_keeps hg' (fun r e => (hr r e).2) hs.2.2 rfl).trans hs.2.2⟩)
    (fun s A A' hs hw => ⟨hIW s A A' hs.1 hw, (hWr A A' _ hw (by omega) (Array.getElem?_eq_some_iff.1 hs.2.1).1).trans hs.2.1, (hWr A A' _ hw (Nat.le_refl _) (Array.getElem?_eq_some_iff.1 hs.2.2).1).trans hs.2.2⟩)
    ?_ ⟨hI1, hL1, hK1⟩ (by rw [← hW1]; exact hGb.alloc (s := ()) _ (hGb.alloc (s := ()) _ h0b))).mono ?_
   · -- ONE ROUND
     rintro pre x W0 ⟨hi0, hl0, hk0⟩ hlen
     have hlt0 : w.heap.size + 1 < W0.heap.size := (Array.getElem?_eq_some_iff.1 hl0).1
     have hy := run_yield (P := P) (args := encs x) hl0 (by rw [hrec]; exact hps x)
     rw [hrec] at hy
     have hg0 := hmk x W0
     have hKm0 := hKm x W0
     have hbx0 := hBx0 x W0
     have hno : ∀ r, (none : Option Nat) = some r → w.heap.size ≤ r ∧ ∃ o : Obj, W0.heap[r]? = some o ∧ o.isCells = false := fun r e => by cases e
     have hi := hI pre W0 _ none hi0 hg0 hno
     have hl := (hg0.block _ hlt0 (by simp)).trans hl0
     have hk := (hg0.block _ (by omega) (by simp)).trans hk0
     refine ⟨fn, _, assign, body, hy, roundIn_of_wpIn hfn (hassign _ x W0 _ ⟨_, run_beginRound hl (by rw [hrec]), ?_⟩)⟩
     have hlt : w.heap.size + 1 < (mk x W0).heap.size := (Array.getElem?_eq_some_iff.1 hl).1
     have hbge : w.heap.size ≤ W0.heap.size := by omega
     clear hy hi0 hl0 hk0 hno hg0
     generalize hW0 : mk x W0 = W at *
     have hl2 : (W.putObj (w.heap.size + 1) (.loop { rec .ready none with state := .busy })).heap[w.heap.size + 1]? = some (.loop { rec .ready none with state := .busy }) := World.putObj_heap_same hlt
     have hk2 : (W.putObj (w.heap.size + 1) (.loop { rec .ready none with state := .busy })).heap[w.heap.size]? = some (.deferred (some [])) := (World.putObj_heap_other (by omega)).trans hk
     have hw2 : Kp W (W.putObj (w.heap.size + 1) (.loop { rec .ready none with state := .busy })) := hKb _ _ _ _ (by omega) hl rfl rfl
     refine wpIn_mono (hbody _ pre x W0.heap.size _ hbge (hI.putObj _ hi (by omega) hl rfl) hlen (hBxO.putObj (s := (x, W0.heap.size)) _ hbx0 (by omega) hl rfl)) ?_
     have fin : ∀ (jump : Option Code) (W3 : World), KeepsFrom w.heap.size (W.putObj (w.heap.size + 1) (.loop { rec .ready none with state := .busy })) W3 →
      (Instr.endRound (w.heap.size + 1) jump).run P W3 = .ok (.bool jump.isNone) (W3.putObj (w.heap.size + 1) (.loop (rec (if jump.isNone then .ready else .done) jump))) ∧
      W3.heap[w.heap.size + 1]? = some (.loop { rec .ready none with state := .busy }) ∧
      (W3.putObj (w.heap.size + 1) (.loop (rec (if jump.isNone then .ready else .done) jump))).heap[w.heap.size + 1]? = some (.loop (rec (if jump.isNone then .ready else .done) jump)) ∧
      (W3.putObj (w.heap.size + 1) (.loop (rec (if jump.isNone then .ready else .done) jump))).heap[w.heap.size]? = some (.deferred (some [])) := fun jump W3 hk3 => by
      have hl3 := hk3.same _ _ (by omega) hl2 rfl
      have := run_endRound (P := P) jump hl3
      rw [hrec] at this ⊢
      exact ⟨this, by rw [hrec] at hl3; exact hl3, World.putObj_heap_same (Array.getElem?_eq_some_iff.1 hl3).1, (World.putObj_heap_other (by omega)).trans (hk3.same _ _ (Nat.le_refl _) hk2 rfl)⟩
     rintro e a3 W3 hp
     cases e with
     | normal =>
       obtain ⟨hk3, hkp3, hi3⟩ := hp
       obtain ⟨hr, hl3, hl4, hk4⟩ := fin none W3 hk3
       exact ⟨_, _, hr, rfl, ⟨hI.putObj _ hi3 (by omega) hl3 rfl, hl4, hk4⟩, hKt (hKt hKm0 (hKt hw2 hkp3)) (hKb _ _ _ _ (by omega) hl3 rfl rfl)⟩
     | ret => exact hp.2.elim
     | exit id => exact hp.2.elim
     | goto t => exact hp.2.elim
     | panic ch => exact hp.elim
     | outgrown => exact hp.elim
   · -- BEHIND THE ITERATOR
     rintro e W2 ⟨⟨v, rfl⟩, xs, hS, ⟨hi, hl, hk⟩, hge⟩
     exact ⟨none, _, by have := run_endLoop (P := P) hl (by rw [hrec]; simp); rw [hrec] at this; exact this, hdone _ xs _ (Nat.le_refl _) hS (hI.putObj _ hi (by omega) hl rfl) (hGe.putObj (s := ()) _ hge (by omega) hl rfl) ((World.putObj_heap_other (by omega)).trans hk)⟩
/-! ### Under the widest fence, outside a round: what is shown of a region outside serves -/
theorem Oper.wpInW_of_wp {n : Nat} (hn : 1 ≤ n) {o : Oper} (hd : ∀ c, o.op ≠ .defer c) {a : Act} {w : World} {K : Act → World → Prop} {Q : Exit → Act → World → Prop} (h : o.wp P a w K Q) : o.wpIn Fence.wide n P a w K Q := by
 refine ⟨fun f _ => trivial, ?_⟩
 rw [Oper.semAt_eq _ _ _ hd]
 unfold Oper.wp at h
 generalize (execOp a.eval o).run P w = r at *
 cases r with
 | ok x w' =>
   cases x <;> simp only [Oper.upon] at h <;> simp only [Oper.uponIn]
   case value v => exact h
   case skip => exact h
   case defer d => exact h
   case enter f args => exact ⟨fun _ => hn, callsIn_wide.2 h⟩
   case row row args => exact ⟨fun _ => hn, fun c cs _ => let ⟨v, w', r, s⟩ := h c cs; ⟨v, w', r, stepsIn_wide.2 s⟩⟩
 | halt x w' => cases x <;> simp only [Oper.upon] at h <;> simp only [Oper.uponIn] <;> exact h
theorem wpAnyInW_of_R {n : Nat} (hn : 1 ≤ n) {ops : Array Oper} {md : Region.Mode} {Q : Exit → Act → World → Prop} {S : World → Prop} {k : Nat} (hd : ∀ (i : Nat) (o : Oper), ops[i]? = some o → ∀ c, o.op ≠ .defer c) :
 ∀ (fuel : Nat) (listed : Array Bool) (a : Act) (w : World), wpAnyR P md k ops Q S fuel listed a w → wpAnyIn Fence.wide n P md ops Q fuel listed a w
 | 0, _, _, _, h => h
 | fuel + 1, listed, a, w, h => ⟨h.1, fun i hi => by
   have h1 := wpOpR_mono (fun a' w' h' => wpAnyInW_of_R hn hd fuel _ a' w' h'.2) (h.2 i hi)
   unfold wpOpR at h1
   unfold wpOpIn
   split
   · rename_i ho
     simpa only [ho] using h1
   · rename_i o ho
     simp only [ho] at h1
     split
     · rename_i hw
       rw [if_pos hw] at h1
       exact Oper.wpInW_of_wp hn (hd i o ho) h1
     · rename_i hw
       rw [if_neg hw] at h1
       exact ⟨fun _ _ => trivial, h1⟩⟩
theorem wpIn_region_w {n : Nat} {id : Nat} {ops : Array Oper} {Q : Exit → Act → World → Prop} {S : World → Prop} {a : Act} {w : World} (k : Nat) (hn : 1 ≤ n) (hm : P.follows .mixedOrders = true) (hd : noDefer ops = true) (hS : S w.drew)
 (h : S w.drew → wpAnyR P .any k ops (NoPanic Q) S ops.size (Array.replicate ops.size false) a w.drew) : (Code.region id ops true).wpIn Fence.wide n P Q a w :=
 wpIn_mono (wpIn_region_any hm (wpAnyInW_of_R hn (fun i o ho c => noDefer_spec hd i o ho c) _ _ _ _ (h hS))) (fun e a w h => NoPanic.imp e a w h)
end
section
attribute [local go_sem] alloc_drewN setCell_drewN World.cell?_alloc_some frozen_alloc_some
def byteV (x : UInt8) : Array Value := #[.int .u8 x.toNat]
def TakG (qp lb nb rb : Nat) (q : List UInt8) (over : Bool) (W : World) : Prop := (∃ fr, QueAt W qp lb fr q over) ∧ W.heap[nb]? = some (.cells #[.int .i64 q.length] 3 (0, 0)) ∧ W.heap[rb]? = some (.cells #[.pointer (some ⟨qp, 0, none⟩)] 134 (0, 0))
def TakE (qp lb : Nat) (over : Bool) (W : World) : Prop := ∃ fr, QueAt W qp lb fr [] over
theorem QueAt.pop {W : World} {qp lb fr : Nat} {x : UInt8} {q : List UInt8} {over : Bool} (h : QueAt W qp lb fr (x :: q) over) :
 QueAt ((W.setCell ⟨qp, 1, none⟩ (.int .i64 ((fr + 1) % 20 : Nat))).setCell ⟨qp, 2, none⟩ (.int .i64 q.length)) qp lb ((fr + 1) % 20) q over := by
 have h1 := heap_set_same h.box 1 (.int .i64 ((fr + 1) % 20 : Nat))
 have h2 := heap_set_same h1 2 (.int .i64 q.length)
 obtain ⟨c, hc, hn, hcc⟩ := h.row
 have hl := h.len
 rw [List.length_cons] at hl hcc
 refine ⟨h2, ⟨c, (heap_setCell_other _ _ _ _ h.ne.symm).trans ((heap_setCell_other _ _ _ _ h.ne.symm).trans hc), hn, fun i hi => ?_⟩, by omega, Nat.mod_lt _ (by decide)⟩
 have := hcc (i + 1) (by omega)
 rw [show ((fr + 1) % 20 + i) % 20 = (fr + (i + 1)) % 20 by omega, this]
 simp
theorem taken1_in (n : Nat) (hn : 1 ≤ n) (l qp lb nb rb N : Nat) (q : List UInt8) (over : Bool) (hN : qp < N ∧ lb < N ∧ nb < N ∧ rb < N) (hne : nb ≠ qp ∧ rb ≠ qp) (J : List UInt8 → World → Prop) (hJW : ∀ s A A', J s A → Keeps (fun k => k = qp) A A' → J s A')
 (hY : ∀ pre x W, J pre W → q[pre.length]? = some x → YieldAt Fence.wide (n - 1) Tryz.prog l (byteV x) W fun e W' =>
   (e = .returned (.bool true) ∧ J (pre ++ [x]) W' ∧ (∀ k, k < N → W'.heap[k]? = W.heap[k]?)))
 (W : World) (hAb : AbidesFrom W.heap.size J) (h0 : J [] W) (hG : TakG qp lb nb rb q over W) :
 CallsIn Fence.wide n Tryz.prog 87 #[.func (.yield l) #[] #[], .pointer (some ⟨nb, 0, none⟩), .pointer (some ⟨rb, 0, none⟩)] W fun e W' => (∃ v, e = .returned v) ∧
  (∃ xs, xs = q ∧ J xs W' ∧ TakE qp lb over W') := by
 have HY := Lib.hid hY
 have HJW := Lib.hid hJW
 have HAB : Hid (∀ s W', J s W → Below W.heap.size W W' → J s W') := fun s W' hj hb => hAb s W W' none hj (grown_of_below hb) (fun r e => by cases e)
 obtain ⟨⟨fr, hq⟩, hnb, hrb⟩ := hG
 have hql := hq.len
 have HQ := Lib.hid hq
 have HNB := Lib.hid hnb
 have HRB := Lib.hid hrb
 have H0 := Lib.hid h0
 have n0 : W.cell? ⟨nb, 0, none⟩ = some (.int .i64 q.length) := cell_row hnb 0
 clear hJW hY hAb h0 hq hnb hrb
 refine callsIn_of_wp Tryz.func87 rfl trivial ?_ rfl
 simp only [Tryz.ntmps87, List.size_toArray, List.length_cons, List.length_nil, Nat.reduceAdd, Nat.reduceSub, Array.replicate_succ, Array.replicate_zero, List.push_toArray, List.append_toArray, List.nil_append, List.cons_append]
 gi_wp2
 gi_loopw [6] (fun i wr => ∃ (k fr : Nat), k ≤ q.length ∧ i = .int .i64 k ∧ J (q.take k) wr ∧ QueAt wr qp lb fr (q.drop k) over ∧ wr.heap[nb]? = some (.cells #[.int .i64 q.length] 3 (0, 0)) ∧ wr.heap[rb]? = some (.cells #[.pointer (some ⟨qp, 0, none⟩)] 134 (0, 0))) (fun i _ => q.length - (intOf i).toNat)
 case atStart => exact ⟨0, fr, Nat.zero_le _, rfl, H0.out, HQ.out, HNB.out, HRB.out⟩
 case round =>
  obtain ⟨k, fr, hk, rfl, hj, hq, hnb, hrb⟩ := hrel
  by_cases hlt : k < q.length
  · have hzk : (k : Int) < (q.length : Int) := by omega
    obtain ⟨x, qs, hdrop⟩ : ∃ x qs, q.drop k = x :: qs := ⟨q[k], q.drop (k + 1), List.drop_eq_getElem_cons hlt⟩
    have hx : q[k]? = some x := by
     have := congrArg (·[0]?) hdrop
     simpa using this
    have hqs : qs = q.drop (k + 1) := by
     have := congrArg List.tail hdrop
     simpa using this.symm
    rw [hdrop] at hq
    obtain ⟨c0, c1, c2, c3, f1, f2, f3⟩ := row4q hq
    obtain ⟨c, hc, hcn, hcc⟩ := hq.row
    have hfr := hq.fr_lt
    have hb0 : wr.cell? ⟨lb, fr, none⟩ = some (.int .u8 x.toNat) := by
     rw [cell_row hc]
     have := hcc 0 (by simp)
     rw [Nat.add_zero, Nat.mod_eq_of_lt hfr] at this
     simpa using this
    have hfi : (fr : Int) < 20 := by omega
    have hf0 : (0 : Int) ≤ (fr : Int) := by omega
    have r0 : wr.cell? ⟨rb, 0, none⟩ = some (.pointer (some ⟨qp, 0, none⟩)) := cell_row hrb 0
    have hw1 : IntKind.i64.wrap ((fr : Int) + 1) = (fr : Int) + 1 := wrap_in (by omega) (by omega)
    have hm1 : ((fr : Int) + 1).tmod 20 = (((fr + 1) % 20 : Nat) : Int) := (Int.ofNat_tmod (fr + 1) 20).symm
    have hln : ((x :: qs).length : Int) = (qs.length : Int) + 1 := by simp
    have hw2 : IntKind.i64.wrap ((qs.length : Int) + 1 - 1) = (qs.length : Int) := by
     have := congrArg List.length hqs
     rw [List.length_drop] at this
     rw [wrap_in (by omega) (by omega)]
     omega
    rw [hln] at c2
    have hqsl : (qs.length : Int) ≤ 20 := by
     have := congrArg List.length hqs
     rw [List.length_drop] at this
     omega
    have HQS := Lib.hid hqs
    clear hqs
    have HQ3 := Lib.hid hq
    have HJ3 := Lib.hid hj
    have HNB3 := Lib.hid hnb
    have HRB3 := Lib.hid hrb
    clear hq hj hnb hrb hcc hc hdrop
    gi_wp2
    refine wpIn_region_w (S := fun W : World => W = wr.drew) 999 (by omega) (by kernel_rfl) (by kernel_rfl) (rfl) (fun hHeld => ?_)
    refine kHR (v := ?_) 0 hHeld ?y1 ?_
    case y1 => (intro W hSw; subst hSw; go_simp; try with_reducible rfl)
    refine kSR 1 hHeld ?_
    refine kSR 2 hHeld ?_
    refine kHR (v := ?_) 3 hHeld ?y4 ?_
    case y4 => (intro W hSw; subst hSw; go_simp; try with_reducible rfl)
    refine kHR (v := ?_) 4 hHeld ?y5 ?_
    case y5 => (intro W hSw; subst hSw; go_simp; try with_reducible rfl)
    try refine kNR ?_
    refine kSR 5 hHeld ?_
    refine kSR 6 hHeld ?_
    refine kHR (v := ?_) 7 hHeld ?y8 ?_
    case y8 => (intro W hSw; subst hSw; go_simp; try with_reducible rfl)
    refine kSR 8 hHeld ?_
    refine kHR (v := ?_) 9 hHeld ?y10 ?_
    case y10 => (intro W hSw; subst hSw; go_simp; try with_reducible rfl)
    try refine kNR ?_
    refine kSR 10 hHeld ?_
    try refine kNR ?_
    refine wpAnyR_done (by kernel_rfl) ?_ _
    refine NoPanic.normal ?_
    gi_wp2
    refine wpIn_region_w (S := fun W : World => W = wr.drew.drew) 14 (by omega) (by kernel_rfl) (by kernel_rfl) (rfl) (fun hHeld => ?_)
    refine kTR (v := ?_) 0 [] hHeld ?y1 ?_
    case y1 => (intro W hSw; subst hSw; go_simp; try with_reducible rfl)
    refine kTR (v := ?_) 1 [] hHeld ?y2 ?_
    case y2 => (intro W hSw; subst hSw; go_simp; try with_reducible rfl)
    refine kSR 2 hHeld ?_
    refine kSR 3 hHeld ?_
    refine kTR (v := ?_) 4 [] hHeld ?y5 ?_
    case y5 => (intro W hSw; subst hSw; go_simp; try with_reducible rfl)
    try refine kNR ?_
    refine kSR 5 hHeld ?_
    refine kTR (v := ?_) 6 [] hHeld ?y7 ?_
    case y7 => (intro W hSw; subst hSw; go_simp; try with_reducible rfl)
    refine kSR 7 hHeld ?_
    refine kSR 8 hHeld ?_
    refine kTR (v := ?_) 9 [] hHeld ?y10 ?_
    case y10 => (intro W hSw; subst hSw; go_simp; try with_reducible rfl)
    try refine kNR ?_
    refine kSR 10 hHeld ?_
    refine kSR 11 hHeld ?_
    refine kSR 12 hHeld ?_
    refine kSR 13 hHeld ?_
    try refine kNR ?_
    refine kPR 14 fun KQ hKQ => ?_
    go_simp
    refine hKQ.out _ _ ?_
    clear hKQ KQ
    try refine kNR ?_
    refine wpAnyR_done (by kernel_rfl) ?_ _
    refine NoPanic.normal ?_
    have e20 : (((fr + 1) % 20 : Nat) : Int) = ((fr : Int) + 1) % 20 := by omega
    have hq5 : QueAt ((wr.setCell ⟨qp, 1, none⟩ (.int .i64 (((fr : Int) + 1) % 20))).setCell ⟨qp, 2, none⟩ (.int .i64 (qs.length : Int))).drew.drew qp lb ((fr + 1) % 20) qs over := by
     rw [← e20]
     exact (HQ3.out.pop.below (Below.refl _ _).drew).below (Below.refl _ _).drew
    have hk5 : Keeps (fun k => k = qp) wr ((wr.setCell ⟨qp, 1, none⟩ (.int .i64 (((fr : Int) + 1) % 20))).setCell ⟨qp, 2, none⟩ (.int .i64 (qs.length : Int))).drew.drew :=
     (((Keeps.refl (fun k => k = qp) wr).setCell' (p := ⟨qp, 1, none⟩) rfl _).setCell' (p := ⟨qp, 2, none⟩) rfl _).trans (Keeps.of_below (Below.refl _ _).drew.drew) fun k hk => .inl hk
    have hj5 := HJW.out _ _ _ HJ3.out hk5
    have hnb5 := (hk5.block nb (block_lt HNB3.out) hne.1).trans HNB3.out
    have hrb5 := (hk5.block rb (block_lt HRB3.out) hne.2).trans HRB3.out
    have hlk : (q.take k).length = k := by rw [List.length_take]; omega
    have hYY := HY.out (q.take k) x _ hj5 (by rw [hlk]; exact hx)
    unfold byteV at hYY
    obtain ⟨fn, tmps, assign, body, hy, hR⟩ := hYY
    have HR := Lib.hid hR
    have HQ5 := Lib.hid hq5
    have HNB5 := Lib.hid hnb5
    have HRB5 := Lib.hid hrb5
    have HN := Lib.hid hN
    clear hR hq5 hnb5 hrb5 hj5 hk5 hHeld hN
    gi_wp2
    refine HR.out.mono ?_
    rintro e W6 ⟨rfl, hJ6, hk6⟩
    have HJ6 := Lib.hid hJ6
    have HQ6 := Lib.hid (HQ5.out.of_blocks (hk6 _ HN.out.1) (hk6 _ HN.out.2.1))
    have HNB6 := Lib.hid ((hk6 _ HN.out.2.2.1).trans HNB5.out)
    have HRB6 := Lib.hid ((hk6 _ HN.out.2.2.2).trans HRB5.out)
    clear hJ6 hk6
    gi_wp2
    have htk : q.take (k + 1) = q.take k ++ [x] := by rw [List.take_add_one, hx]; rfl
    exact ⟨⟨k + 1, (fr + 1) % 20, by omega, by go_num, by rw [htk]; exact HJ6.out, by rw [← HQS.out]; exact HQ6.out, HNB6.out, HRB6.out⟩, by simp [intOf]; omega⟩
  · obtain rfl : k = q.length := by omega
    have HJ := Lib.hid hj
    have HQ2 := Lib.hid hq
    clear hj hq hnb hrb n0
    gi_wp2
    go_end0
    refine ⟨⟨_, rfl⟩, q, rfl, by simpa using HJ.out, fr, by simpa using HQ2.out⟩
end
section
attribute [local go_sem] alloc_drewN setCell_drewN World.cell?_alloc_some frozen_alloc_some size_f0 size_f1 Oper.semAt_some
theorem infoU8 : (Tryz.prog.info? 5).map (fun i => (i.zero, i.size, i.bytes)) = some (some (.int .u8 0), 1, 1) := by kernel_rfl
theorem own_cells {W : World} {base : Nat} {e : TypeId} {size n : Nat} {V : Value} {xs : List Value} (h : W.ownsRow base e size V n xs) {k : Nat} (hk : V.ownBlock = some k) : base ≤ k ∧ ∃ c, W.heap[k]? = some (.cells c e (0, 0)) := by
 obtain ⟨hl, h⟩ := h
 rcases h with ⟨rfl, _⟩ | ⟨g, cap, cur, rfl, hb, hg, rest⟩
 · cases hk
 · cases hk
   exact ⟨hb, cur, hg⟩
theorem own_same {W W' : World} {base : Nat} {e : TypeId} {size n : Nat} {V : Value} {xs : List Value} (h : W.ownsRow base e size V n xs) (hk : ∀ k, V.ownBlock = some k → W'.heap[k]? = W.heap[k]?) : W'.ownsRow base e size V n xs := by
 obtain ⟨hl, h⟩ := h
 refine ⟨hl, ?_⟩
 rcases h with h | ⟨g, cap, cur, rfl, hb, hg, rest⟩
 · exact .inl h
 · exact .inr ⟨g, cap, cur, rfl, hb, (hk g rfl).trans hg, rest⟩
theorem Keeps.grown {F : Nat → Prop} {w X Y : World} {row : Option Nat} (h : Keeps F w X) (hg : X.grownBy Y row) (hr : ∀ r, row = some r → w.heap.size ≤ r) : Keeps F w Y :=
 ⟨hg.os.trans h.os, hg.tape.trans h.tape, hg.output.trans h.output, Nat.le_trans h.size hg.size, fun k hk hn => (hg.block k (Nat.lt_of_lt_of_le hk h.size) (fun e => by have := hr k e.symm; omega)).trans (h.block k hk hn)⟩
theorem que_own {A B : World} {row : Option Nat} {n qp lb fr : Nat} {q : List UInt8} {over : Bool} (h : QueAt A qp lb fr q over) (hg : A.grownBy B row) (hr : ∀ r, row = some r → n ≤ r ∧ ∃ o : Obj, A.heap[r]? = some o ∧ o.isCells = false) : QueAt B qp lb fr q over := by
 obtain ⟨c, hc, r⟩ := h.row
 exact ⟨cells_kept hg hr h.box, ⟨c, cells_kept hg hr hc, r⟩, h.len, h.fr_lt⟩
theorem takG_own (qp lb nb rb : Nat) (q : List UInt8) (over : Bool) (n : Nat) : OwnFrom n (fun (_ : Unit) W => TakG qp lb nb rb q over W) := by
 rintro _ A B row ⟨⟨fr, h1⟩, h2, h3⟩ hg hr
 exact ⟨⟨fr, que_own h1 hg hr⟩, cells_kept hg hr h2, cells_kept hg hr h3⟩
theorem takE_own (qp lb : Nat) (over : Bool) (n : Nat) : OwnFrom n (fun (_ : Unit) W => TakE qp lb over W) := by
 rintro _ A B row ⟨fr, h1⟩ hg hr
 exact ⟨fr, que_own h1 hg hr⟩
theorem taken_stops (n : Nat) (hn : 1 ≤ n) (qp lb nb rb N : Nat) (q : List UInt8) (over : Bool) (hN : qp < N ∧ lb < N ∧ nb < N ∧ rb < N) (hne : nb ≠ qp ∧ rb ≠ qp) (w : World) :
 SeqStopsW Fence.wide n Tryz.prog 87 #[.pointer (some ⟨nb, 0, none⟩), .pointer (some ⟨rb, 0, none⟩)] byteV (fun A B => ∀ k, k < N → B.heap[k]? = A.heap[k]?) (fun A B => Keeps (fun k => k = qp) A B) (fun xs => xs = q) (fun pre x => q[pre.length]? = some x) (TakG qp lb nb rb q over) (TakE qp lb over) w :=
 fun l J W _ hAb hJW hY h0 hG => taken1_in n hn l qp lb nb rb N q over hN hne J hJW hY W hAb h0 hG
def ColI (w : World) (qp : Nat) (pre : List UInt8) (W : World) : Prop := (∃ v, W.heap[w.heap.size]? = some (.cells #[v] 34 (0, 0)) ∧ W.ownsRow (w.heap.size + 1) 5 1 v pre.length (bytesV pre)) ∧ Keeps (fun k => k = qp) w W
theorem append_in (n : Nat) (hn : 3 ≤ n) (qp lb nb rb : Nat) (q : List UInt8) (over : Bool) (w : World) (hG : TakG qp lb nb rb q over w) (hne : nb ≠ qp ∧ rb ≠ qp) :
 CallsIn Fence.wide n Tryz.prog 86 #[.slice none 0 0, .func (.func 87) #[] #[.pointer (some ⟨nb, 0, none⟩), .pointer (some ⟨rb, 0, none⟩)]] w fun e w' => ∃ v, e = .returned v ∧ w'.ownsRow (w.heap.size + 1) 5 1 v q.length (bytesV q) ∧ TakE qp lb over w' ∧ Keeps (fun k => k = qp) w w' := by
 have h1 : 1 ≤ n := by omega
 obtain ⟨i0, hi, hz0, hz1, hz2⟩ := info_three infoU8
 obtain ⟨⟨fr, hq⟩, hnb, hrb⟩ := hG
 have hN : qp < w.heap.size ∧ lb < w.heap.size ∧ nb < w.heap.size ∧ rb < w.heap.size := ⟨hq.lt.1, hq.lt.2, block_lt hnb, block_lt hrb⟩
 have hql := hq.len
 have hb1 := below1 w (.cells #[.slice none 0 0] 34)
 have HG1 : Hid (TakG qp lb nb rb q over (w.alloc (.cells #[.slice none 0 0] 34))) := ⟨⟨fr, hq.below hb1⟩, (hb1.block _ hN.2.2.1).trans hnb, (hb1.block _ hN.2.2.2).trans hrb⟩
 have HI0 : Hid (ColI w qp [] (w.alloc (.cells #[.slice none 0 0] 34))) := ⟨⟨_, heap_alloc_new _ _, World.ownsRow_nil _ _ _ _⟩, Keeps.of_below hb1⟩
 have HN := Lib.hid hN
 clear hq hnb hrb hb1 hN
 refine callsIn_of_wp_marks Tryz.func86 rfl trivial ?_ rfl
 simp only [Tryz.ntmps86, List.size_toArray, List.length_cons, List.length_nil, Nat.reduceAdd, Nat.reduceSub, Array.replicate_succ, Array.replicate_zero, List.push_toArray, List.append_toArray, List.nil_append, List.cons_append]
 gi_wp2
 refine wpIn_rangeFunc_W rfl h1 (gf := 87) (lb := #[.pointer (some ⟨nb, 0, none⟩), .pointer (some ⟨rb, 0, none⟩)]) rfl trivial (enters_of Tryz.func87 (by kernel_rfl) rfl)
  (taken_stops (n - 1) (by omega) qp lb nb rb w.heap.size q over HN.out hne w) (fun h k i hi => (k i hi).trans (h i hi)) (fun W l o o' hl _ _ _ k hk => World.putObj_heap_other (by rw [World.size_alloc] at hl; omega)) (below1 w _) (fun _ => rfl)
  (ColI w qp) ?hI ?hIW ?hWr (takG_own qp lb nb rb q over _) (takE_own qp lb over _) HI0.out HG1.out
  (fun x b => { tmps := #[.slice none 0 0, .func (.func 87) #[] #[.pointer (some ⟨nb, 0, none⟩), .pointer (some ⟨rb, 0, none⟩)], .pointer (some ⟨w.heap.size, 0, none⟩), undef, .slice none 0 0, .int .u8 x.toNat, .func (.func 87) #[] #[.pointer (some ⟨nb, 0, none⟩), .pointer (some ⟨rb, 0, none⟩)], .int .u8 x.toNat, undef, undef, undef, undef, undef], defers := [] })
  (fun _ W => W) (fun _ _ _ => True) (fun _ W => grown_of_below (Below.refl _ _)) (fun _ W k hk => rfl) (fun _ _ => trivial) (fun _ _ _ _ _ _ _ => trivial) ?assign ?body ?done
 case hI =>
  rintro pre X Y rw ⟨⟨v, h1, h2⟩, hK⟩ hg hr
  refine ⟨⟨v, cells_kept hg hr h1, own_same h2 fun k hk => ?_⟩, hK.grown hg fun r e => by have := (hr r e).1; simp at this; omega⟩
  obtain ⟨_, c, hc⟩ := own_cells h2 hk
  exact (cells_kept hg hr hc).trans hc.symm
 case hIW =>
  rintro pre X Y ⟨⟨v, h1, h2⟩, hK⟩ hW
  refine ⟨⟨v, (hW.block _ (block_lt h1) (by have := HN.out.1; show ¬ w.heap.size = qp; omega)).trans h1, own_same h2 fun k hk => ?_⟩, hK.trans hW fun k hk => .inl hk⟩
  obtain ⟨hge, c, hc⟩ := own_cells h2 hk
  exact hW.block _ (block_lt hc) (by have := HN.out.1; show ¬ k = qp; omega)
 case hWr => exact fun A A' k h hk hl => h.block k hl (by have := HN.out.1; rw [World.size_alloc] at hk; show ¬ k = qp; omega)
 case assign =>
  intro l x W K hK
  unfold byteV
  gi_wp2
  exact hK
 case body =>
  rintro l pre x b W hb ⟨⟨v, h1, h2⟩, hK⟩ hx -
  have hpl : pre.length < q.length := (List.getElem?_eq_some_iff.1 hx).1
  have v0 : W.cell? ⟨w.heap.size, 0, none⟩ = some v := cell_row h1 0
  have hsz : w.heap.size + 1 ≤ W.heap.size := block_lt h1
  have H1 := Lib.hid h1
  have H2 := Lib.hid h2
  have HK := Lib.hid hK
  clear h1 h2 hK hx
  gi_wp2_with (gi_at_builtin; refine wpListIn_append_own _ rfl _ _ 34 rfl (w.heap.size + 1) 5 i0 (.int .u8 0) 1 1 Tryz.underlying34 hi hz0 hz1 hz2 rfl (by decide) _ _ _ rfl (H2.out.alloc _) ⟨W.heap.size, 0, none⟩ 1 1 [.int .u8 x.toNat] rfl rfl (cell_one_new _ _ _) (by simp [Value.oneCell']) (by unfold maxLen; omega) (by omega) (by simp; omega) ?_; intro v' w1 hown' hgrow _; obtain ⟨g', cap', rfl⟩ := own_succ hown'; have hg1 := (hgrow.block w.heap.size (by simp; omega) (fun e => own_not H2.out H1.out (by decide) e.symm)).trans ((Below.heap_alloc W _ _ (by omega)).trans H1.out); have hc1 := cell_row hg1 0; have hf1 := frozen_row hg1 0; have HOWN := Lib.hid hown'; have HGR := Lib.hid (show (W.alloc (.cells #[.int .u8 x.toNat] 5)).grownBy w1 v.ownBlock from hgrow); have HG5 := Lib.hid hg1; clear hown' hgrow hg1)
  obtain ⟨v', hv'⟩ : ∃ v', v' = Value.slice (some ⟨g', 0, none⟩) (pre.length + 1) cap' := ⟨_, rfl⟩
  rw [← hv'] at HOWN ⊢
  have hvb : ∀ k, v.ownBlock = some k → w.heap.size + 1 ≤ k ∧ ∃ c, W.heap[k]? = some (.cells c 5 (0, 0)) := fun k hk => own_cells H2.out hk
  have hle : ∀ (k : Nat) (o : Obj), k < W.heap.size → W.heap[k]? = some o → (k = w.heap.size → False) → (∀ c, o ≠ .cells c 5 (0, 0)) → (w1.setCell ⟨w.heap.size, 0, none⟩ v').heap[k]? = some o := fun k o hk ho hn hc => by
   refine (heap_setCell_other _ _ _ _ hn).trans ((HGR.out.block k (by simp; omega) fun e => ?_).trans ((Below.heap_alloc W _ _ hk).trans ho))
   obtain ⟨_, c, hcc⟩ := hvb k e.symm
   rw [ho] at hcc
   injection hcc with hcc
   exact hc c hcc
  refine ⟨⟨?_, fun k o hB hk ho => hle k o (Array.getElem?_eq_some_iff.1 hk).1 hk (fun e => ?_) fun c e => by subst e; cases ho⟩, fun k hk => ?_, ⟨v', ?_, ?_⟩, ?_⟩
  · rw [World.size_setCell]
    have := HGR.out.size
    rw [World.size_alloc] at this
    omega
  · rw [World.size_alloc] at hB
    omega
  · refine (heap_setCell_other _ _ _ _ (show k ≠ w.heap.size by omega)).trans ((HGR.out.block k (by simp; omega) fun e => ?_).trans (Below.heap_alloc W _ _ (by omega)))
    have := (hvb k e.symm).1
    omega
  · exact heap_set_same HG5.out 0 v'
  · have h5 := own_same HOWN.out (W' := w1.setCell ⟨w.heap.size, 0, none⟩ v') fun k hk => heap_setCell_other _ _ _ _ (show k ≠ w.heap.size by have := (own_cells HOWN.out hk).1; omega)
    rw [List.length_append]
    have e : bytesV (pre ++ [x]) = bytesV pre ++ [.int .u8 x.toNat] := by simp [bytesV]
    rw [e]
    exact h5
  · have hkk := (HK.out.trans (Keeps.of_below (below1 W (.cells #[.int .u8 x.toNat] 5))) fun k hk => .inl hk).grown HGR.out fun r e => by have := (hvb r e).1; omega
    exact ⟨hkk.os, hkk.tape, hkk.output, by rw [World.size_setCell]; exact hkk.size, fun k hk hn => (heap_setCell_other _ _ _ _ (show k ≠ w.heap.size by omega)).trans (hkk.block k hk hn)⟩
 case done =>
  rintro D ys W hD rfl ⟨⟨v, h1, h2⟩, hK⟩ hge hd
  have v0 : W.cell? ⟨w.heap.size, 0, none⟩ = some v := cell_row h1 0
  have H2 := Lib.hid h2
  have HK := Lib.hid hK
  have HGE := Lib.hid hge
  clear h1 h2 hK hge
  gi_wp2
  refine ⟨by simp, .inl ⟨_, _, rfl, run_takeDeferred hd, ?_⟩⟩
  have hh := grownBy_putObj' W D (.deferred none)
  have hr : ∀ r, some D = some r → w.heap.size + 1 ≤ r ∧ ∃ o : Obj, W.heap[r]? = some o ∧ o.isCells = false := fun r e => by cases e; exact ⟨by simpa using hD, _, hd, rfl⟩
  refine ⟨v, by simp [results, Tryz.results86, go_sem], v, rfl, own_same H2.out fun k hk => ?_, takE_own qp lb over (w.heap.size + 1) () _ _ _ HGE.out hh hr, HK.out.grown hh fun r e => by have := (hr r e).1; omega⟩
  obtain ⟨_, c, hc⟩ := own_cells H2.out hk
  exact (cells_kept hh hr hc).trans hc.symm
theorem append_ok (qp lb nb rb : Nat) (q : List UInt8) (over : Bool) (w : World) (hG : TakG qp lb nb rb q over w) (hne : nb ≠ qp ∧ rb ≠ qp) :
 Calls Tryz.prog 86 #[.slice none 0 0, .func (.func 87) #[] #[.pointer (some ⟨nb, 0, none⟩), .pointer (some ⟨rb, 0, none⟩)]] w fun e w' => ∃ v, e = .returned v ∧ w'.ownsRow (w.heap.size + 1) 5 1 v q.length (bytesV q) ∧ TakE qp lb over w' ∧ Keeps (fun k => k = qp) w w' :=
 callsIn_wide.1 (append_in 3 (Nat.le_refl _) qp lb nb rb q over w hG hne)
theorem collect_ok (qp lb nb rb : Nat) (q : List UInt8) (over : Bool) (w : World) (hG : TakG qp lb nb rb q over w) (hne : nb ≠ qp ∧ rb ≠ qp) :
 Calls Tryz.prog 55 #[.func (.func 87) #[] #[.pointer (some ⟨nb, 0, none⟩), .pointer (some ⟨rb, 0, none⟩)]] w fun e w' => ∃ v, e = .returned v ∧ w'.ownsRow (w.heap.size + 1) 5 1 v q.length (bytesV q) ∧ TakE qp lb over w' ∧ Keeps (fun k => k = qp) w w' := by
 have HA := Lib.hid (append_ok qp lb nb rb q over w hG hne)
 clear hG
 go_enter Tryz.func55, Tryz.ntmps55
 go_wp2_with (go_at_call 86; refine HA.out.mono ?_; rintro e w1 ⟨v, rfl, h1, h2, h3⟩)
 go_ret
 exact ⟨v, rfl, h1, h2, h3⟩
theorem taken_ok (qp : Nat) (m : Int) (w : World) :
 Calls Tryz.prog 56 #[.pointer (some ⟨qp, 0, none⟩), .int .i64 m] w fun e w' => e = .returned (.func (.func 87) #[] #[.pointer (some ⟨w.heap.size + 1, 0, none⟩), .pointer (some ⟨w.heap.size, 0, none⟩)]) ∧ (w.alloc (.cells #[.pointer (some ⟨qp, 0, none⟩)] 134)).alloc (.cells #[.int .i64 m] 3) = w' := by
 go_enter Tryz.func56, Tryz.ntmps56
 go_wp2_with fail
 go_ret
 exact ⟨rfl, rfl⟩
theorem conv_own {W : World} {base : Nat} {v : Value} {l : List UInt8} (h : W.ownsRow base 5 1 v l.length (bytesV l)) : (convert 34 9 v).run Tryz.prog W = .ok (.string ⟨l.toArray⟩) W := by
 rcases h.2 with ⟨rfl, h0⟩ | ⟨g, cap, cur, rfl, _, hg, _⟩
 · have : l = [] := List.eq_nil_of_length_eq_zero h0
   subst this
   exact Lib.run_convert_nil_bytes W _ _ _ 0 Tryz.underlying34 Tryz.underlying5 Tryz.underlying9
 · refine run_convert_bytes_back W _ _ _ ⟨g, 0, none⟩ cap l Tryz.underlying34 Tryz.underlying5 Tryz.underlying9 fun j hj => ?_
   exact h.cells (g := g) rfl j _ (by simp [bytesV, List.getElem?_eq_getElem hj])
theorem que_some (qp lb fr : Nat) (q : List UInt8) (over : Bool) (w : World) (h : QueAt w qp lb fr q over) :
 Calls Tryz.prog 33 #[.pointer (some ⟨qp, 0, none⟩), .int .i64 q.length] w fun e w' => e = .returned (.string ⟨q.toArray⟩) ∧ QueTo w w' qp lb [] over := by
 obtain ⟨c0, c1, c2, c3, f1, f2, f3⟩ := row4q h
 have hql := h.len
 have hz0 : ¬ ((q.length : Int) < 0) := by omega
 have hmx : max (q.length : Int) 0 = q.length := by omega
 have hmn : min (q.length : Int) (q.length : Int) = q.length := by omega
 have H := Lib.hid h
 clear h
 go_enter Tryz.func33, Tryz.ntmps33
 go_upto_region 3 with fail
 refine wp_region_noPanic ?_
 refine wp_region_k (S := fun W : World => W = w.drew) 11 (by kernel_rfl) (rfl) (fun hHeld => ?_)
 refine kSK 0 hHeld ?_
 refine kSK 1 hHeld ?_
 refine kSK 2 hHeld ?_
 refine kSK 3 hHeld ?_
 refine kSK 4 hHeld ?_
 try refine kNK ?_
 refine kSK 5 hHeld ?_
 refine kSK 6 hHeld ?_
 refine kSK 7 hHeld ?_
 refine kSK 8 hHeld ?_
 refine kTK (v := ?_) 9 [10] hHeld ?y10 ?_
 case y10 => (intro W hSw; subst hSw; go_simp; try with_reducible rfl)
 try refine kNK ?_
 refine kSK 10 hHeld ?_
 try refine kNK ?_
 refine kPK 11 fun KQ hKQ => ?_
 go_simp
 go_at_call 56
 refine (taken_ok qp _ _).mono ?_
 rintro e w1 ⟨rfl, hw1⟩
 have HW1 := Lib.hid hw1
 have hb1 : Below w.heap.size w w1 := by rw [← hw1]; exact ((Below.refl _ _).drew.alloc (Nat.le_refl _) _).alloc (by simp) _
 have hx := box2 (show Below ((w.drew.alloc (.cells #[.pointer (some ⟨qp, 0, none⟩)] 134)).alloc (.cells #[.int .i64 q.length] 3)).heap.size ((w.drew.alloc (.cells #[.pointer (some ⟨qp, 0, none⟩)] 134)).alloc (.cells #[.int .i64 q.length] 3)) w1 by rw [← hw1]; exact Below.refl _ _)
 have hqw := H.out.lt.1
 have HCOL := Lib.hid (collect_ok qp lb (w.heap.size + 1) w.heap.size q over w1 ⟨⟨fr, H.out.below hb1⟩, hx.2.1, hx.1⟩ ⟨by omega, by omega⟩)
 have HB1 := Lib.hid hb1
 clear hw1 hb1 hx
 go_wp2_with fail
 refine hKQ.out _ _ ?_
 clear hKQ KQ
 try refine kNK ?_
 refine kPK 12 fun KQ hKQ => ?_
 go_simp
 go_at_call 55
 refine HCOL.out.mono ?_
 rintro e w2 ⟨v, rfl, hv, he, hk⟩
 have hcv := conv_own hv
 have HE := Lib.hid he
 have HK := Lib.hid hk
 clear hv he hk
 go_wp2_with fail
 refine hKQ.out _ _ ?_
 clear hKQ KQ
 try refine kNK ?_
 refine kPK 13 fun KQ hKQ => ?_
 go_simp
 skip
 refine hKQ.out _ _ ?_
 clear hKQ KQ
 try refine kNK ?_
 refine kBK 14 ?_
 try refine kNK ?_
 refine wpAnyK_done (by kernel_rfl) ?_ _
 refine NoPanic.normal ?_
 go_wp2_with fail
 go_ret
 refine ⟨rfl, HE.out, ?_⟩
 exact ((Keeps.of_below HB1.out).trans HK.out fun k hk => .inl hk).mono fun k hk => .inl hk
theorem que_drain (qp lb fr : Nat) (q : List UInt8) (over : Bool) (w : World) (h : QueAt w qp lb fr q over) :
 Calls Tryz.prog 15 #[.pointer (some ⟨qp, 0, none⟩)] w fun e w' => e = .returned (.string ⟨q.toArray⟩) ∧ QueTo w w' qp lb [] false := by
 obtain ⟨c0, c1, c2, c3, f1, f2, f3⟩ := row4q h
 have hlk : (w.setCell ⟨qp, 3, none⟩ (.bool false)).cell? ⟨qp, 2, none⟩ = some (.int .i64 q.length) := cell_row (heap_set_same h.box 3 (.bool false)) 2
 have HA : Hid (QueAt (w.setCell ⟨qp, 3, none⟩ (.bool false)) qp lb fr q false) := ⟨heap_set_same h.box 3 (.bool false), by obtain ⟨c, hc, r⟩ := h.row; exact ⟨c, (heap_setCell_other _ _ _ _ h.ne.symm).trans hc, r⟩, h.len, h.fr_lt⟩
 have HS := Lib.hid (que_some qp lb fr q false _ HA.out)
 clear h
 go_enter Tryz.func15, Tryz.ntmps15
 go_wp2_with (go_at_call 33; refine HS.out.mono ?_; rintro e w1 ⟨rfl, h1⟩; have HT := Lib.hid h1; clear h1)
 go_ret
 exact ⟨rfl, HT.out.1, ((Keeps.refl (fun k => k = qp ∨ k = lb) w).setCell' (p := ⟨qp, 3, none⟩) (.inl rfl) _).trans HT.out.2 fun k hk => .inl hk⟩
end
end Go.Proofs.YtncgigapgklhcaaGreatDoor
