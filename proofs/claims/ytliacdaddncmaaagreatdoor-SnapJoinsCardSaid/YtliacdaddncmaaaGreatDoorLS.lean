import Derived.Test.YtliacdaddncmaaaGreatDoorLC

/- A law for a range over a function that turns a block of its own between the rounds (a ring that is emptied): after XRangeT's. -/
namespace Go.Proofs.YtliacdaddncmaaaGreatDoor
open Go Go.RowKit

variable {F : Fence} {n : Nat} {P : Program}

/-- The contract of an iterator value that turns what Wr lets it turn: Ge holds of what it leaves at its end. -/
def SeqStopsW {α : Type} (F : Fence) (n : Nat) (P : Program) (g : Nat) (lb : Array Value) (encs : α → Array Value) (Kp Wr : World → World → Prop) (S : List α → Prop) (T : List α → α → Prop) (Gb Ge : World → Prop) (w : World) : Prop :=
  ∀ (l : Nat) (J : List α → World → Prop) (W : World), Below w.heap.size w W → AbidesFrom W.heap.size J → (∀ s A A', J s A → Wr A A' → J s A') →
    (∀ pre x W1, J pre W1 → T pre x → YieldAt F (n - 1) P l (encs x) W1 fun e W' =>
      (e = .returned (.bool true) ∧ J (pre ++ [x]) W' ∧ Kp W1 W')) →
    J [] W → Gb W →
    CallsIn F n P g (#[.func (.yield l) #[] #[]] ++ lb) W fun e W' => (∃ v, e = .returned v) ∧ (∃ xs, S xs ∧ J xs W' ∧ Ge W')

theorem wpIn_rangeFunc_W {α : Type} {g : Operand} {ps : Array Tmp} {assign body : Code} {Q : Exit → Act → World → Prop} {a : Act} {w : World}
    (hro : F.round = none) (h1 : 1 ≤ n) {gf : Nat} {lb : Array Value} (hg : a.eval g = .func (.func gf) #[] lb) (hFg : F.fn gf) (eg : ∀ args w, (callFunc gf args).run P w = .ok (.enter gf args) w)
    {encs : α → Array Value} {Kp Wr : World → World → Prop} {S : List α → Prop} {T : List α → α → Prop} {Gb Ge : World → Prop} {w0 : World} (hseq : SeqStopsW F (n - 1) P gf lb encs Kp Wr S T Gb Ge w0)
    (hKt : ∀ {A B C : World}, Kp A B → Kp B C → Kp A C) (hKb : ∀ (W : World) (l : Nat) (o o' : Obj), w.heap.size ≤ l → W.heap[l]? = some o → o.isCells = false → o.isWalk = false → Kp W (W.putObj l o')) (hb0 : Below w0.heap.size w0 w) (hps : ∀ x, (encs x).size = ps.size)
    (I : List α → World → Prop) (hI : OwnFrom w.heap.size I) (hIW : ∀ s A A', I s A → Wr A A' → I s A') (hWr : ∀ A A' k, Wr A A' → w.heap.size ≤ k → k < A.heap.size → A'.heap[k]? = A.heap[k]?) (hGb : OwnFrom w.heap.size (fun (_ : Unit) W => Gb W)) (hGe : OwnFrom w.heap.size (fun (_ : Unit) W => Ge W)) (h0 : I [] w) (h0b : Gb w) (a₁ : α → Nat → Act) (mk : α → World → World) (Bx : α → Nat → World → Prop) (hmk : ∀ x (W : World), W.grownBy (mk x W) none) (hKm : ∀ x (W : World), Kp W (mk x W)) (hBx0 : ∀ x (W : World), Bx x W.heap.size (mk x W)) (hBxO : OwnFrom w.heap.size (fun (p : α × Nat) W => Bx p.1 p.2 W))
    (hassign : ∀ (l : Nat) (x : α) (W : World) (K : Act → World → Prop), K (a₁ x W.heap.size) (mk x W) →
      assign.wpIn (F.inRound l) (n - 1 - 1) P (Exit.then K (fun _ _ _ => False)) { tmps := (ps.zip (encs x)).foldl (fun t (p, v) => t.setIfInBounds p v) a.tmps, defers := [] } W)
    (hbody : ∀ (l : Nat) (pre : List α) (x : α) (b : Nat) (W : World), w.heap.size ≤ b → I pre W → T pre x → Bx x b W → body.wpIn (F.inRound l) (n - 1 - 1) P (ownPostG w.heap.size Kp I (fun _ _ _ => False) (pre ++ [x]) W) (a₁ x b) W)
    (hdone : ∀ (D : Nat) (xs : List α) (W : World), w.heap.size ≤ D → S xs → I xs W → Ge W → W.heap[D]? = some (.deferred (some [])) → Q .normal { a with defers := { target := .collected D, args := #[] } :: a.defers } W) :
    (Code.rangeFunc g ps assign body).wpIn F n P Q a w := by
  refine wpIn_rangeFunc ?_
  intro fn hfn
  rw [hro]
  obtain ⟨rec, hrec⟩ : ∃ rec : LoopState → Option Code → Loop, rec = fun st pe => { state := st, pending := pe, fn, tmps := a.tmps, params := ps, assign, body, defers := w.heap.size } := ⟨_, rfl⟩
  obtain ⟨W1, hW1⟩ : ∃ W1, (w.alloc (.deferred (some []))).alloc (.loop (rec .ready none)) = W1 := ⟨_, rfl⟩
  have hL1 : W1.heap[w.heap.size + 1]? = some (.loop (rec .ready none)) := by
    rw [← hW1]; have := World.alloc_heap_new (w.alloc (.deferred (some []))) (.loop (rec .ready none)); rwa [World.size_alloc] at this
  have hK1 : W1.heap[w.heap.size]? = some (.deferred (some [])) := by
    rw [← hW1]; exact (Below.heap_alloc _ _ _ (by simp)).trans (World.alloc_heap_new w _)
  have hI1 : I [] W1 := by rw [← hW1]; exact hI.alloc _ (hI.alloc _ h0)
  have hb1 : Below w0.heap.size w0 W1 := by
    rw [← hW1]; exact hb0.trans ((((Below.refl _ w).alloc (Nat.le_refl _) _).alloc (by simp) _).mono hb0.size)
  refine ⟨w.heap.size + 1, [{ target := .collected w.heap.size, args := #[] }], W1, { target := .fn (.func gf) lb, args := #[.func (.yield (w.heap.size + 1)) #[] #[]] }, W1, gf,
    #[.func (.yield (w.heap.size + 1)) #[] #[]] ++ lb, W1, ?_, ?_, ?_, ?_, fun _ => h1, ?_⟩
  · rw [← hW1, hrec]; exact run_enterLoop_outer _ _ _ _ _
  · simp only [resolve, hg]
    simp [go_sem]
  · intro f' hf'; simp [Target.leads] at hf'; subst hf'; exact hFg
  · simp [invoke, go_sem, eg]
  · -- THE ITERATOR's CONTRACT, AT THE CALLER's INVARIANT WITH THE TWO FACTS OF BOOK-KEEPING BESIDE IT
    have hnw : ∀ {A B : World} {row : Option Nat}, (∀ r, row = some r → W1.heap.size ≤ r ∧ ∃ o : Obj, A.heap[r]? = some o ∧ o.isWalk = true) → (∀ r, row = some r → w.heap.size ≤ r ∧ ∃ o : Obj, A.heap[r]? = some o ∧ o.isCells = false) :=
      fun hr r e => by obtain ⟨hB, o, ho, hw⟩ := hr r e; exact ⟨by rw [← hW1] at hB; simp at hB; omega, o, ho, Obj.not_cells_of_walk hw⟩
    refine (hseq (w.heap.size + 1)
      (fun pre W => I pre W ∧ W.heap[w.heap.size + 1]? = some (.loop (rec .ready none)) ∧ W.heap[w.heap.size]? = some (.deferred (some [])))
      W1 hb1
      (fun s A B row hs hg' hr => ⟨hI s A B row hs.1 hg' (hnw (B := B) hr), (grownBy_keeps hg' (fun r e => (hr r e).2) hs.2.1 rfl).trans hs.2.1, (grownBy_keeps hg' (fun r e => (hr r e).2) hs.2.2 rfl).trans hs.2.2⟩)
      (fun s A A' hs hw => ⟨hIW s A A' hs.1 hw, (hWr A A' _ hw (by omega) (Array.getElem?_eq_some_iff.1 hs.2.1).1).trans hs.2.1, (hWr A A' _ hw (Nat.le_refl _) (Array.getElem?_eq_some_iff.1 hs.2.2).1).trans hs.2.2⟩)
      ?_ ⟨hI1, hL1, hK1⟩ (by rw [← hW1]; exact hGb.alloc (s := ()) _ (hGb.alloc (s := ()) _ h0b))).mono ?_
    · -- ONE ROUND
      rintro pre x W0 ⟨hi0, hl0, hk0⟩ hlen
      have hlt0 : w.heap.size + 1 < W0.heap.size := (Array.getElem?_eq_some_iff.1 hl0).1
      have hy := run_yield (P := P) (args := encs x) hl0 (by rw [hrec]; exact hps x)
      rw [hrec] at hy
      have hg0 := hmk x W0
      have hKm0 := hKm x W0
      have hbx0 := hBx0 x W0
      have hno : ∀ r, (none : Option Nat) = some r → w.heap.size ≤ r ∧ ∃ o : Obj, W0.heap[r]? = some o ∧ o.isCells = false := fun r e => by cases e
      have hi := hI pre W0 _ none hi0 hg0 hno
      have hl := (hg0.block _ hlt0 (by simp)).trans hl0
      have hk := (hg0.block _ (by omega) (by simp)).trans hk0
      refine ⟨fn, _, assign, body, hy, roundIn_of_wpIn hfn (hassign _ x W0 _ ⟨_, run_beginRound hl (by rw [hrec]), ?_⟩)⟩
      have hlt : w.heap.size + 1 < (mk x W0).heap.size := (Array.getElem?_eq_some_iff.1 hl).1
      have hbge : w.heap.size ≤ W0.heap.size := by omega
      clear hy hi0 hl0 hk0 hno hg0
      generalize hW0 : mk x W0 = W at *
      have hl2 : (W.putObj (w.heap.size + 1) (.loop { rec .ready none with state := .busy })).heap[w.heap.size + 1]? = some (.loop { rec .ready none with state := .busy }) := World.putObj_heap_same hlt
      have hk2 : (W.putObj (w.heap.size + 1) (.loop { rec .ready none with state := .busy })).heap[w.heap.size]? = some (.deferred (some [])) := (World.putObj_heap_other (by omega)).trans hk
      have hw2 : Kp W (W.putObj (w.heap.size + 1) (.loop { rec .ready none with state := .busy })) := hKb _ _ _ _ (by omega) hl rfl rfl
      refine wpIn_mono (hbody _ pre x W0.heap.size _ hbge (hI.putObj _ hi (by omega) hl rfl) hlen (hBxO.putObj (s := (x, W0.heap.size)) _ hbx0 (by omega) hl rfl)) ?_
      have fin : ∀ (jump : Option Code) (W3 : World), KeepsFrom w.heap.size (W.putObj (w.heap.size + 1) (.loop { rec .ready none with state := .busy })) W3 →
          (Instr.endRound (w.heap.size + 1) jump).run P W3 = .ok (.bool jump.isNone) (W3.putObj (w.heap.size + 1) (.loop (rec (if jump.isNone then .ready else .done) jump))) ∧
          W3.heap[w.heap.size + 1]? = some (.loop { rec .ready none with state := .busy }) ∧
          (W3.putObj (w.heap.size + 1) (.loop (rec (if jump.isNone then .ready else .done) jump))).heap[w.heap.size + 1]? = some (.loop (rec (if jump.isNone then .ready else .done) jump)) ∧
          (W3.putObj (w.heap.size + 1) (.loop (rec (if jump.isNone then .ready else .done) jump))).heap[w.heap.size]? = some (.deferred (some [])) := fun jump W3 hk3 => by
        have hl3 := hk3.same _ _ (by omega) hl2 rfl
        have := run_endRound (P := P) jump hl3
        rw [hrec] at this ⊢
        exact ⟨this, by rw [hrec] at hl3; exact hl3, World.putObj_heap_same (Array.getElem?_eq_some_iff.1 hl3).1, (World.putObj_heap_other (by omega)).trans (hk3.same _ _ (Nat.le_refl _) hk2 rfl)⟩
      rintro e a3 W3 hp
      cases e with
      | normal =>
        obtain ⟨hk3, hkp3, hi3⟩ := hp
        obtain ⟨hr, hl3, hl4, hk4⟩ := fin none W3 hk3
        exact ⟨_, _, hr, rfl, ⟨hI.putObj _ hi3 (by omega) hl3 rfl, hl4, hk4⟩, hKt (hKt hKm0 (hKt hw2 hkp3)) (hKb _ _ _ _ (by omega) hl3 rfl rfl)⟩
      | ret => exact hp.2.elim
      | exit id => exact hp.2.elim
      | goto t => exact hp.2.elim
      | panic ch => exact hp.elim
      | outgrown => exact hp.elim
    · -- BEHIND THE ITERATOR
      rintro e W2 ⟨⟨v, rfl⟩, xs, hS, ⟨hi, hl, hk⟩, hge⟩
      exact ⟨none, _, by have := run_endLoop (P := P) hl (by rw [hrec]; simp); rw [hrec] at this; exact this, hdone _ xs _ (Nat.le_refl _) hS (hI.putObj _ hi (by omega) hl rfl) (hGe.putObj (s := ()) _ hge (by omega) hl rfl) ((World.putObj_heap_other (by omega)).trans hk)⟩

/-! ### Under the widest fence, outside a round: what is shown of a region outside serves -/
theorem Oper.wpInW_of_wp {n : Nat} (hn : 1 ≤ n) {o : Oper} (hd : ∀ c, o.op ≠ .defer c) {a : Act} {w : World} {K : Act → World → Prop} {Q : Exit → Act → World → Prop} (h : o.wp P a w K Q) : o.wpIn Fence.wide n P a w K Q := by
  refine ⟨fun f _ => trivial, ?_⟩
  rw [Oper.semAt_eq _ _ _ hd]
  unfold Oper.wp at h
  generalize (execOp a.eval o).run P w = r at *
  cases r with
  | ok x w' =>
    cases x <;> simp only [Oper.upon] at h <;> simp only [Oper.uponIn]
    case value v => exact h
    case skip => exact h
    case defer d => exact h
    case enter f args => exact ⟨fun _ => hn, callsIn_wide.2 h⟩
    case row row args => exact ⟨fun _ => hn, fun c cs _ => let ⟨v, w', r, s⟩ := h c cs; ⟨v, w', r, stepsIn_wide.2 s⟩⟩
  | halt x w' => cases x <;> simp only [Oper.upon] at h <;> simp only [Oper.uponIn] <;> exact h
theorem wpAnyInW_of_R {n : Nat} (hn : 1 ≤ n) {ops : Array Oper} {md : Region.Mode} {Q : Exit → Act → World → Prop} {S : World → Prop} {k : Nat} (hd : ∀ (i : Nat) (o : Oper), ops[i]? = some o → ∀ c, o.op ≠ .defer c) :
    ∀ (fuel : Nat) (listed : Array Bool) (a : Act) (w : World), wpAnyR P md k ops Q S fuel listed a w → wpAnyIn Fence.wide n P md ops Q fuel listed a w
  | 0, _, _, _, h => h
  | fuel + 1, listed, a, w, h => ⟨h.1, fun i hi => by
    have h1 := wpOpR_mono (fun a' w' h' => wpAnyInW_of_R hn hd fuel _ a' w' h'.2) (h.2 i hi)
    unfold wpOpR at h1
    unfold wpOpIn
    split
    · rename_i ho
      simpa only [ho] using h1
    · rename_i o ho
      simp only [ho] at h1
      split
      · rename_i hw
        rw [if_pos hw] at h1
        exact Oper.wpInW_of_wp hn (hd i o ho) h1
      · rename_i hw
        rw [if_neg hw] at h1
        exact ⟨fun _ _ => trivial, h1⟩⟩
/-- The beginning, under the widest fence. -/
theorem wpIn_region_w {n : Nat} {id : Nat} {ops : Array Oper} {Q : Exit → Act → World → Prop} {S : World → Prop} {a : Act} {w : World} (k : Nat) (hn : 1 ≤ n) (hm : P.follows .mixedOrders = true) (hd : noDefer ops = true) (hS : S w.drew)
    (h : S w.drew → wpAnyR P .any k ops (NoPanic Q) S ops.size (Array.replicate ops.size false) a w.drew) : (Code.region id ops true).wpIn Fence.wide n P Q a w :=
  wpIn_mono (wpIn_region_any hm (wpAnyInW_of_R hn (fun i o ho c => noDefer_spec hd i o ho c) _ _ _ _ (h hS))) (fun e a w h => NoPanic.imp e a w h)
end Go.Proofs.YtliacdaddncmaaaGreatDoor
