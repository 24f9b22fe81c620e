import Derived.OrdersIn
import Derived.Test.YtliacdaddncmaaaGreatDoorLC

/- The law of XRegR under the widest fence: an operation may be a call of yield. -/
namespace Go
set_option linter.unusedSimpArgs false
set_option linter.unusedVariables false

section
variable {n : Nat} {P : Program} {ops : Array Oper} {Q : Exit → Act → World → Prop} {md : Region.Mode} {S T : World → Prop} {k : Nat}

/-- One operation comes up (none outgrows). -/
def wpOpI (n : Nat) (P : Program) (ops : Array Oper) (Q : Exit → Act → World → Prop) (i : Nat) (K : Act → World → Prop) (a : Act) (w : World) : Prop :=
  match ops[i]? with
  | none => K a w
  | some o => if Region.wanted o (yielded ops a.tmps) then o.wpIn Fence.wide n P a w K Q else K (a.put o.dst undef) w
theorem wpOpI_mono {i : Nat} {a : Act} {w : World} {K K' : Act → World → Prop} (h : ∀ a w, K a w → K' a w) (hh : wpOpI n P ops Q i K a w) : wpOpI n P ops Q i K' a w := by
  unfold wpOpI at *
  split
  · rename_i ho
    simp only [ho] at hh
    exact h _ _ hh
  · rename_i o ho
    simp only [ho] at hh
    split
    · rename_i hw
      rw [if_pos hw] at hh
      exact Oper.wpIn_mono h hh
    · rename_i hw
      rw [if_neg hw] at hh
      exact h _ _ hh
theorem wpOpI_step {i : Nat} {o : Oper} {K : Act → World → Prop} {a : Act} {w : World} (ho : ops[i]? = some o)
    (h : ∀ K' : Act → World → Prop, (∀ a w, K a w → K' a w) → if Region.wanted o (yielded ops a.tmps) = true then Oper.wpIn Fence.wide n P o a w K' Q else K' (a.put o.dst undef) w) : wpOpI n P ops Q i K a w := by
  unfold wpOpI
  simp only [ho]
  exact h K fun _ _ h => h
/-- In state a, in every world that meets S, operation o leaves v and does nothing else. -/
def YieldsI (P : Program) (ops : Array Oper) (S : World → Prop) (o : Oper) (v : Value) (a : Act) : Prop :=
  (Region.wanted o (yielded ops a.tmps) = true ∧ ∀ w, S w → (execOp a.eval o).run P w = .ok (.value v) w) ∨
  (Region.wanted o (yielded ops a.tmps) = false ∧ v = undef)
theorem YieldsI.wpOpI {i : Nat} {o : Oper} {v : Value} {a : Act} (hi : ops[i]? = some o) (hy : YieldsI P ops S o v a)
    {K : Act → World → Prop} {w : World} (hS : S w) (h : K (a.put o.dst v) w) : wpOpI n P ops Q i K a w := by
  unfold Go.wpOpI
  simp only [hi]
  rcases hy with ⟨hw, hv⟩ | ⟨hw, rfl⟩
  · rw [if_pos hw]
    refine ⟨fun f _ => trivial, ?_⟩
    rw [show Fence.wide.round = none from rfl, Oper.semAt_none, hv w hS]
    exact h
  · simp only [hw, Bool.false_eq_true, if_false]; exact h
theorem YieldsI.of_same {o : Oper} {v : Value} {a a' : Act} (hy : YieldsI P ops S o v a) (he : execOp a'.eval o = execOp a.eval o)
    (hw : Region.wanted o (yielded ops a'.tmps) = Region.wanted o (yielded ops a.tmps)) : YieldsI P ops S o v a' := by
  unfold YieldsI at *
  rw [he, hw]
  exact hy
theorem wpOpI_put {j : Nat} {oi oj : Oper} {v : Value} (hj : ops[j]? = some oj) (hap : oi.apart ops oj = true)
    (hsi : ∀ cs b, oi.op ≠ .select cs b) (hsj : ∀ cs b, oj.op ≠ .select cs b)
    (hQ : ∀ c a w, Q (.panic c) (a.put oi.dst v) w → Q (.panic c) a w) {K : Act → World → Prop} {a : Act} {w : World}
    (hy : YieldsI P ops S oi v a) (h : wpOpI n P ops Q j K (a.put oi.dst v) w) :
    wpOpI n P ops Q j (fun a' w' => YieldsI P ops S oi v a' ∧ K (a'.put oi.dst v) w') a w := by
  obtain ⟨h1, h2, h3⟩ := Oper.apart_spec hap
  have keep : ∀ (a : Act), YieldsI P ops S oi v a → ∀ u, YieldsI P ops S oi v (a.put oj.dst u) := fun a hy u =>
    hy.of_same (execOp_put oi hsi a oj.dst u h3) (wanted_put oi a oj.dst u h3)
  have keepD : ∀ d, YieldsI P ops S oi v { a with defers := d :: a.defers } := fun d => hy.of_same rfl rfl
  unfold wpOpI at *
  simp only [hj] at *
  rw [wanted_put oj a oi.dst v h1] at h
  split
  · rename_i hw
    simp only [hw, if_true] at h
    unfold Oper.wpIn at *
    refine ⟨fun f _ => trivial, ?_⟩
    have h := h.2
    rw [show Fence.wide.round = none from rfl, Oper.semAt_none, execOp_put oj hsj a oi.dst v h1] at h
    rw [show Fence.wide.round = none from rfl, Oper.semAt_none]
    generalize (execOp a.eval oj).run P w = r at *
    cases r with
    | ok x w' =>
      cases x <;> simp only [Oper.uponIn] at h ⊢
      case value u => exact ⟨keep a hy u, by rw [← Act.put_comm a v u h2]; exact h⟩
      case skip => exact ⟨keep a hy _, by rw [← Act.put_comm a v undef h2]; exact h⟩
      case defer d =>
        refine ⟨keep _ (keepD d) _, ?_⟩
        rw [← Act.put_comm _ v undef h2, ← Act.put_defers]
        exact h
      case enter f args =>
        refine ⟨h.1, CallsIn.mono h.2 fun e w'' he => ?_⟩
        cases e with
        | returned u => exact ⟨keep a hy u, by rw [← Act.put_comm a v u h2]; exact he⟩
        | panicked c => exact hQ _ _ _ he
        | outgrown => exact he
      case row row args => exact ⟨h.1, RowsIn.mono h.2 fun u w'' he => ⟨keep a hy u, by rw [← Act.put_comm a v u h2]; exact he⟩⟩
      case round l f tmps assign body =>
        refine ⟨h.1, RoundIn.mono h.2 fun e w'' he => ?_⟩
        cases e with
        | returned u => exact ⟨keep a hy u, by rw [← Act.put_comm a v u h2]; exact he⟩
        | panicked c => exact hQ _ _ _ he
        | outgrown => exact he
    | halt x w' =>
      cases x <;> simp only [Oper.uponIn] at h ⊢
      case panic u => exact hQ _ _ _ h
  · rename_i hw
    simp only [hw] at h
    exact ⟨keep a hy _, by rw [← Act.put_comm a v undef h2]; exact h⟩

/-- Whatever order is picked from here on; S holds behind every operation that is carried out ahead of number k. -/
def wpAnyI (n : Nat) (P : Program) (md : Region.Mode) (k : Nat) (ops : Array Oper) (Q : Exit → Act → World → Prop) (S : World → Prop) : Nat → Array Bool → Act → World → Prop
  | 0, listed, a, w => Region.ready md ops listed = [] ∧ Q .normal a w
  | fuel + 1, listed, a, w =>
    (Region.ready md ops listed = [] → Q .normal a w) ∧
    ∀ i ∈ Region.ready md ops listed, wpOpI n P ops Q i (fun a' w' => ((listed.setIfInBounds i true).getD k false = false → S w') ∧ wpAnyI n P md k ops Q S fuel (listed.setIfInBounds i true) a' w') a w
theorem wpAnyI_mono {S' : World → Prop} (h : ∀ w, S' w → S w) :
    ∀ (fuel : Nat) (listed : Array Bool) (a : Act) (w : World), wpAnyI n P md k ops Q S' fuel listed a w → wpAnyI n P md k ops Q S fuel listed a w
  | 0, _, _, _, H => H
  | fuel + 1, _, _, _, H => ⟨H.1, fun i hi => wpOpI_mono (fun a' w' h' => ⟨fun e => h _ (h'.1 e), wpAnyI_mono h fuel _ a' w' h'.2⟩) (H.2 i hi)⟩

theorem wpAnyI_first {i : Nat} {oi : Oper} {v : Value} (hik : i ≠ k) (hi : ops[i]? = some oi) (hsel : ∀ (j : Nat) (o : Oper) cs b, ops[j]? = some o → o.op ≠ .select cs b)
    (hQ : ∀ c a w, Q (.panic c) (a.put oi.dst v) w → Q (.panic c) a w)
    (hT : ∀ listed' : Array Bool, Region.Closed md ops listed' → listed'.getD i false = false → ∀ j ∈ Region.ready md ops listed', j ≠ i → ∀ w', (((listed'.setIfInBounds i true).setIfInBounds j true).getD k false = false → S w') → T w') :
    ∀ (fuel : Nat) (listed : Array Bool) (a : Act) (w : World), Region.Closed md ops listed →
      (∀ j oj, ops[j]? = some oj → j ≠ i → listed.getD j true = false → (∀ e ∈ oj.after, Region.binds md e = true → e.on ≠ i) → oi.apart ops oj = true) →
      i ∈ Region.ready md ops listed → YieldsI P ops T oi v a → T w → ((listed.setIfInBounds i true).getD k false = false → S w) →
      wpAnyI n P md k ops Q S fuel (listed.setIfInBounds i true) (a.put oi.dst v) w → wpAnyI n P md k ops Q S (fuel + 1) listed a w := by
  intro fuel
  induction fuel with
  | zero =>
    intro listed a w _ _ hr hy hTw hS H
    refine ⟨fun h => (by rw [h] at hr; cases hr), fun j hj => ?_⟩
    by_cases hji : j = i
    · subst hji; exact hy.wpOpI hi hTw ⟨hS, H⟩
    · have := ready_mono hj hji
      rw [H.1] at this
      cases this
  | succ fuel ih =>
    intro listed a w hcl hfree hr hy hTw hS H
    refine ⟨fun h => (by rw [h] at hr; cases hr), fun j hj => ?_⟩
    by_cases hji : j = i
    · subst hji; exact hy.wpOpI hi hTw ⟨hS, H⟩
    · have h1 := H.2 j (ready_mono hj hji)
      obtain ⟨hjun, oj, hoj, hall⟩ := mem_ready.1 hj
      have hiun := (mem_ready.1 hr).1
      have hnot : ∀ e ∈ oj.after, Region.binds md e = true → e.on ≠ i := fun e he hb heq => by
        have h1 := hall e he hb
        rw [heq, getD_both hiun] at h1
        cases h1
      have h2 := wpOpI_put hoj (hfree j oj hoj hji hjun hnot) (fun cs b => hsel i oi cs b hi) (fun cs b => hsel j oj cs b hoj) hQ hy h1
      have hfree' : ∀ k ok, ops[k]? = some ok → k ≠ i → (listed.setIfInBounds j true).getD k true = false →
          (∀ e ∈ ok.after, Region.binds md e = true → e.on ≠ i) → oi.apart ops ok = true := fun k ok hk hki hun hno => by
        refine hfree k ok hk hki ?_ hno
        by_cases hjk : j = k
        · subst hjk; exact hjun
        · rw [getD_set_ne true hjk] at hun; exact hun
      refine wpOpI_mono (fun a' w' h3 => ?_) h2
      have hSw : ((listed.setIfInBounds j true).setIfInBounds i true).getD k false = false → S w' := by
        rw [Array.setIfInBounds_comm _ _ hji]
        exact h3.2.1
      refine ⟨fun e => h3.2.1 ?_, ih (listed.setIfInBounds j true) a' w' (hcl.set hj) hfree' (ready_mono hr (Ne.symm hji)) h3.1 (hT listed hcl (getD_both hiun) j hj hji w' h3.2.1) hSw ?_⟩
      · rw [Array.setIfInBounds_comm _ _ (Ne.symm hji), getD_set_ne false hik]
        exact e
      · rw [Array.setIfInBounds_comm _ _ hji]
        exact h3.2.2

/-- Take number i first: a load, or a quiet call, that K waits for. -/
theorem wpAnyI_take {i : Nat} {oi : Oper} {v : Value} {fuel : Nat} {listed : Array Bool} {a : Act} {w : World} (l : List Nat) (hi : ops[i]? = some oi)
    (hc : Region.downB md ops i l k = true) (hik : (i == k) = false) (hcl : Region.closedB md ops listed = true) (hs : Region.noSelect ops = true) (hf : Region.free md ops listed i = true) (hr : (Region.ready md ops listed).contains i = true)
    (hQ : ∀ c a w, Q (.panic c) (a.put oi.dst v) w → Q (.panic c) a w) (hy : YieldsI P ops S oi v a) (hS : S w)
    (h : wpAnyI n P md k ops Q S fuel (listed.setIfInBounds i true) (a.put oi.dst v) w) : wpAnyI n P md k ops Q S (fuel + 1) listed a w := by
  refine wpAnyI_first (T := S) (by simpa using hik) hi (Region.noSelect_spec hs) hQ ?_ fuel listed a w (Region.closed_spec hcl) (Region.free_spec hi hf) (by simpa using hr) hy hS (fun _ => hS) h
  intro listed' hcl' hun j hj hji w' hw'
  refine hw' ?_
  have hjk : j ≠ k := by
    rintro rfl
    have := Region.down_ready hcl' l j hc hj
    rw [hun] at this
    cases this
  rw [getD_set_ne false hjk, getD_set_ne false (by simpa using hik)]
  cases hl : listed'.getD k false with
  | false => rfl
  | true =>
    have := Region.down_listed hcl' l k hc hl
    rw [hun] at this
    cases this
/-- Take number i first where K is none of the region's: S holds all through it. -/
theorem wpAnyI_held {i : Nat} {oi : Oper} {v : Value} {fuel : Nat} {listed : Array Bool} {a : Act} {w : World} (hi : ops[i]? = some oi)
    (hk : ops.size ≤ k) (hcl : Region.closedB md ops listed = true) (hs : Region.noSelect ops = true) (hf : Region.free md ops listed i = true) (hr : (Region.ready md ops listed).contains i = true)
    (hQ : ∀ c a w, Q (.panic c) (a.put oi.dst v) w → Q (.panic c) a w) (hy : YieldsI P ops S oi v a) (hS : S w)
    (h : wpAnyI n P md k ops Q S fuel (listed.setIfInBounds i true) (a.put oi.dst v) w) : wpAnyI n P md k ops Q S (fuel + 1) listed a w := by
  have hlt := (Array.getElem?_eq_some_iff.1 hi).1
  refine wpAnyI_first (T := S) (by omega) hi (Region.noSelect_spec hs) hQ ?_ fuel listed a w (Region.closed_spec hcl) (Region.free_spec hi hf) (by simpa using hr) hy hS (fun _ => hS) h
  intro listed' hcl' hun j hj hji w' hw'
  refine hw' ?_
  obtain ⟨_, oj, hoj, _⟩ := mem_ready.1 hj
  have hjlt := (Array.getElem?_eq_some_iff.1 hoj).1
  have hsz' : listed'.size ≤ k := by have := hcl'.1; omega
  rw [getD_set_ne false (by omega), getD_set_ne false (by omega)]
  simp [Array.getElem?_eq_none hsz']
/-- Take number i first: it yields its value in whatever world. -/
theorem wpAnyI_pure {i : Nat} {oi : Oper} {v : Value} {fuel : Nat} {listed : Array Bool} {a : Act} {w : World} (hi : ops[i]? = some oi)
    (hik : (i == k) = false) (hcl : Region.closedB md ops listed = true) (hs : Region.noSelect ops = true) (hf : Region.free md ops listed i = true) (hr : (Region.ready md ops listed).contains i = true)
    (hQ : ∀ c a w, Q (.panic c) (a.put oi.dst v) w → Q (.panic c) a w) (hy : YieldsI P ops (fun _ => True) oi v a) (hS : (listed.setIfInBounds i true).getD k false = false → S w)
    (h : wpAnyI n P md k ops Q S fuel (listed.setIfInBounds i true) (a.put oi.dst v) w) : wpAnyI n P md k ops Q S (fuel + 1) listed a w :=
  wpAnyI_first (T := fun _ => True) (by simpa using hik) hi (Region.noSelect_spec hs) hQ (fun _ _ _ _ _ _ _ _ => trivial) fuel listed a w (Region.closed_spec hcl) (Region.free_spec hi hf) (by simpa using hr) hy trivial hS h
/-! ### The same, shorter to call -/
theorem knoI {p : Prop} (e : true = false) : p := Bool.noConfusion e
theorem wpAnyI_t {i : Nat} {oi : Oper} {v : Value} {fuel : Nat} {listed : Array Bool} {a : Act} {w : World} (l : List Nat) (hi : ops[i]? = some oi) (hy : YieldsI P ops S oi v a) (hS : S w)
    (h : wpAnyI n P md k ops Q S fuel (listed.setIfInBounds i true) (a.put oi.dst v) w) (hc : Region.downB md ops i l k = true := by kernel_rfl) (hik : (i == k) = false := by rfl) (hcl : Region.closedB md ops listed = true := by kernel_rfl) (hs : Region.noSelect ops = true := by kernel_rfl) (hf : Region.free md ops listed i = true := by kernel_rfl) (hr : (Region.ready md ops listed).contains i = true := by kernel_rfl)
    (hQ : ∀ c a w, Q (.panic c) (a.put oi.dst v) w → Q (.panic c) a w := by exact fun _ _ _ h => h) : wpAnyI n P md k ops Q S (fuel + 1) listed a w :=
  wpAnyI_take l hi hc hik hcl hs hf hr hQ hy hS h
theorem wpAnyI_h {i : Nat} {oi : Oper} {v : Value} {fuel : Nat} {listed : Array Bool} {a : Act} {w : World} (hi : ops[i]? = some oi) (hy : YieldsI P ops S oi v a) (hS : S w)
    (h : wpAnyI n P md k ops Q S fuel (listed.setIfInBounds i true) (a.put oi.dst v) w) (hk : ops.size ≤ k := by decide) (hcl : Region.closedB md ops listed = true := by kernel_rfl) (hs : Region.noSelect ops = true := by kernel_rfl) (hf : Region.free md ops listed i = true := by kernel_rfl) (hr : (Region.ready md ops listed).contains i = true := by kernel_rfl)
    (hQ : ∀ c a w, Q (.panic c) (a.put oi.dst v) w → Q (.panic c) a w := by exact fun _ _ _ h => h) : wpAnyI n P md k ops Q S (fuel + 1) listed a w :=
  wpAnyI_held hi hk hcl hs hf hr hQ hy hS h
theorem wpAnyI_p {i : Nat} {oi : Oper} {v : Value} {fuel : Nat} {listed : Array Bool} {a : Act} {w : World} (hi : ops[i]? = some oi) (hy : YieldsI P ops (fun _ => True) oi v a) (hS : (listed.setIfInBounds i true).getD k false = false → S w)
    (h : wpAnyI n P md k ops Q S fuel (listed.setIfInBounds i true) (a.put oi.dst v) w) (hik : (i == k) = false := by rfl) (hcl : Region.closedB md ops listed = true := by kernel_rfl) (hs : Region.noSelect ops = true := by kernel_rfl) (hf : Region.free md ops listed i = true := by kernel_rfl) (hr : (Region.ready md ops listed).contains i = true := by kernel_rfl)
    (hQ : ∀ c a w, Q (.panic c) (a.put oi.dst v) w → Q (.panic c) a w := by exact fun _ _ _ h => h) : wpAnyI n P md k ops Q S (fuel + 1) listed a w :=
  wpAnyI_pure hi hik hcl hs hf hr hQ hy hS h

/-- All have come up. -/
theorem wpAnyI_done {listed : Array Bool} {a : Act} {w : World} (hr : Region.ready md ops listed = []) (h : Q .normal a w) :
    ∀ fuel, wpAnyI n P md k ops Q S fuel listed a w
  | 0 => ⟨hr, h⟩
  | _ + 1 => ⟨fun _ => h, by rw [hr]; simp⟩
/-- Each of the operations rs comes up next. -/
def AllReadyI (n : Nat) (P : Program) (md : Region.Mode) (k : Nat) (ops : Array Oper) (Q : Exit → Act → World → Prop) (S : World → Prop) (fuel : Nat) (listed : Array Bool) (a : Act) (w : World) (rs : List Nat) : Prop :=
  ∀ i ∈ rs, wpOpI n P ops Q i (fun a' w' => ((listed.setIfInBounds i true).getD k false = false → S w') ∧ wpAnyI n P md k ops Q S fuel (listed.setIfInBounds i true) a' w') a w
theorem AllReadyI.nil {fuel : Nat} {listed : Array Bool} {a : Act} {w : World} : AllReadyI n P md k ops Q S fuel listed a w [] := fun _ h => by cases h
/-- Ahead of K: S is to be shown behind the operation. -/
theorem AllReadyI.cons {fuel : Nat} {listed : Array Bool} {a : Act} {w : World} {i : Nat} {o : Oper} {rs : List Nat} (ho : ops[i]? = some o)
    (h : ∀ K' : Act → World → Prop, Shut (∀ a w, S w → (S w → wpAnyI n P md k ops Q S fuel (listed.setIfInBounds i true) a w) → K' a w) → if Region.wanted o (yielded ops a.tmps) = true then Oper.wpIn Fence.wide n P o a w K' Q else K' (a.put o.dst undef) w)
    (hs : AllReadyI n P md k ops Q S fuel listed a w rs) : AllReadyI n P md k ops Q S fuel listed a w (i :: rs) := fun j hj => by
  rcases List.mem_cons.1 hj with rfl | hj
  · exact wpOpI_step ho (fun K' hK => h K' (fun a w hS hW => hK a w ⟨fun _ => hS, hW hS⟩))
  · exact hs j hj
/-- K itself, or behind it: nothing is to be shown of the world. -/
theorem AllReadyI.free {fuel : Nat} {listed : Array Bool} {a : Act} {w : World} {i : Nat} {o : Oper} {rs : List Nat} (ho : ops[i]? = some o) (hk : (listed.setIfInBounds i true).getD k false = true)
    (h : ∀ K' : Act → World → Prop, Shut (∀ a w, wpAnyI n P md k ops Q S fuel (listed.setIfInBounds i true) a w → K' a w) → if Region.wanted o (yielded ops a.tmps) = true then Oper.wpIn Fence.wide n P o a w K' Q else K' (a.put o.dst undef) w)
    (hs : AllReadyI n P md k ops Q S fuel listed a w rs) : AllReadyI n P md k ops Q S fuel listed a w (i :: rs) := fun j hj => by
  rcases List.mem_cons.1 hj with rfl | hj
  · exact wpOpI_step ho (fun K' hK => h K' (fun a w hW => hK a w ⟨fun e => absurd (hk.symm.trans e) (by decide), hW⟩))
  · exact hs j hj
theorem wpAnyI_ready {rs : List Nat} {fuel : Nat} {listed : Array Bool} {a : Act} {w : World} (hr : Region.ready md ops listed = rs) (hne : rs ≠ [])
    (h : AllReadyI n P md k ops Q S fuel listed a w rs) : wpAnyI n P md k ops Q S (fuel + 1) listed a w := ⟨fun h0 => absurd (hr ▸ h0) hne, hr ▸ h⟩
theorem wpAnyIn_of_I : ∀ (fuel : Nat) (listed : Array Bool) (a : Act) (w : World), wpAnyI n P md k ops Q S fuel listed a w → wpAnyIn Fence.wide n P md ops Q fuel listed a w
  | 0, _, _, _, h => h
  | fuel + 1, listed, a, w, h => ⟨h.1, fun i hi => by
    have h1 := wpOpI_mono (fun a' w' h' => wpAnyIn_of_I fuel _ a' w' h'.2) (h.2 i hi)
    unfold wpOpI at h1
    unfold wpOpIn
    split
    · rename_i ho
      simpa only [ho] using h1
    · rename_i o ho
      simp only [ho] at h1
      split
      · rename_i hw
        rw [if_pos hw] at h1
        exact h1
      · rename_i hw
        rw [if_neg hw] at h1
        exact ⟨fun _ _ => trivial, h1⟩⟩
/-- The beginning, under the widest fence. -/
theorem wpIn_region_i {id : Nat} {a : Act} {w : World} (k : Nat) (hm : P.follows .mixedOrders = true) (hS : S w.drew)
    (h : S w.drew → wpAnyI n P .any k ops (NoPanic Q) S ops.size (Array.replicate ops.size false) a w.drew) : (Code.region id ops true).wpIn Fence.wide n P Q a w :=
  wpIn_mono (wpIn_region_any hm (wpAnyIn_of_I _ _ _ _ (h hS))) (fun e a w h => NoPanic.imp e a w h)
theorem wpAnyI_s {i : Nat} {oi : Oper} {v : Value} {fuel : Nat} {listed : Array Bool} {a : Act} {w : World} (hS : (listed.setIfInBounds i true).getD k false = false → S w)
    (h : wpAnyI n P md k ops Q S fuel (listed.setIfInBounds i true) (a.put oi.dst v) w) (hi : ops[i]? = some oi := by rfl) (hy : YieldsI P ops (fun _ => True) oi v a := by (refine Or.inl ⟨by rfl, ?_⟩; intro W hSw; go_simp; try with_reducible rfl)) (hik : (i == k) = false := by rfl) (hcl : Region.closedB md ops listed = true := by kernel_rfl) (hs : Region.noSelect ops = true := by kernel_rfl) (hf : Region.free md ops listed i = true := by kernel_rfl) (hr : (Region.ready md ops listed).contains i = true := by kernel_rfl)
    (hQ : ∀ c a w, Q (.panic c) (a.put oi.dst v) w → Q (.panic c) a w := by exact fun _ _ _ h => h) : wpAnyI n P md k ops Q S (fuel + 1) listed a w :=
  wpAnyI_pure hi hik hcl hs hf hr hQ hy hS h
theorem wpAnyI_n {fuel : Nat} {listed : Array Bool} {a a' : Act} {w : World} (h : wpAnyI n P md k ops Q S fuel listed a' w) (e : a = a' := by (simp only [Act.put, List.getElem_toArray, List.getElem_cons_zero, List.getElem_cons_succ, List.setIfInBounds_toArray, List.set_cons_zero, List.set_cons_succ]; try with_reducible rfl)) : wpAnyI n P md k ops Q S fuel listed a w := e ▸ h
/-! ### The shortest to call -/
theorem kSI (i : Nat) {oi : Oper} {v : Value} {fuel : Nat} {listed : Array Bool} {a : Act} {w : World} (hS : S w) (h : wpAnyI n P md k ops Q S fuel (listed.setIfInBounds i true) (a.put oi.dst v) w) (hi : ops[i]? = some oi := by rfl) (hy : YieldsI P ops (fun _ => True) oi v a := by (refine Or.inl ⟨by rfl, ?_⟩; intro W hSw; go_simp; try with_reducible rfl)) (hik : (i == k) = false := by rfl) (hcl : Region.closedB md ops listed = true := by kernel_rfl) (hs : Region.noSelect ops = true := by kernel_rfl) (hf : Region.free md ops listed i = true := by kernel_rfl) (hr : (Region.ready md ops listed).contains i = true := by kernel_rfl) (hQ : ∀ c a w, Q (.panic c) (a.put oi.dst v) w → Q (.panic c) a w := by exact fun _ _ _ h => h) : wpAnyI n P md k ops Q S (fuel + 1) listed a w :=
  wpAnyI_pure hi hik hcl hs hf hr hQ hy (fun _ => hS) h
theorem kBI (i : Nat) {oi : Oper} {v : Value} {fuel : Nat} {listed : Array Bool} {a : Act} {w : World} (h : wpAnyI n P md k ops Q S fuel (listed.setIfInBounds i true) (a.put oi.dst v) w) (hi : ops[i]? = some oi := by rfl) (hy : YieldsI P ops (fun _ => True) oi v a := by (refine Or.inl ⟨by rfl, ?_⟩; intro W hSw; go_simp; try with_reducible rfl)) (hb : (listed.setIfInBounds i true).getD k false = true := by rfl) (hik : (i == k) = false := by rfl) (hcl : Region.closedB md ops listed = true := by kernel_rfl) (hs : Region.noSelect ops = true := by kernel_rfl) (hf : Region.free md ops listed i = true := by kernel_rfl) (hr : (Region.ready md ops listed).contains i = true := by kernel_rfl) (hQ : ∀ c a w, Q (.panic c) (a.put oi.dst v) w → Q (.panic c) a w := by exact fun _ _ _ h => h) : wpAnyI n P md k ops Q S (fuel + 1) listed a w :=
  wpAnyI_pure hi hik hcl hs hf hr hQ hy (fun e => absurd (hb.symm.trans e) (by decide)) h
theorem kUI (i : Nat) {oi : Oper} {fuel : Nat} {listed : Array Bool} {a : Act} {w : World} (hS : S w) (h : wpAnyI n P md k ops Q S fuel (listed.setIfInBounds i true) (a.put oi.dst undef) w) (hi : ops[i]? = some oi := by rfl) (hw : Region.wanted oi (yielded ops a.tmps) = false := by rfl) (hik : (i == k) = false := by rfl) (hcl : Region.closedB md ops listed = true := by kernel_rfl) (hs : Region.noSelect ops = true := by kernel_rfl) (hf : Region.free md ops listed i = true := by kernel_rfl) (hr : (Region.ready md ops listed).contains i = true := by kernel_rfl) (hQ : ∀ c a w, Q (.panic c) (a.put oi.dst undef) w → Q (.panic c) a w := by exact fun _ _ _ h => h) : wpAnyI n P md k ops Q S (fuel + 1) listed a w :=
  wpAnyI_pure hi hik hcl hs hf hr hQ (Or.inr ⟨hw, rfl⟩) (fun _ => hS) h
theorem kVI (i : Nat) {oi : Oper} {fuel : Nat} {listed : Array Bool} {a : Act} {w : World} (h : wpAnyI n P md k ops Q S fuel (listed.setIfInBounds i true) (a.put oi.dst undef) w) (hi : ops[i]? = some oi := by rfl) (hw : Region.wanted oi (yielded ops a.tmps) = false := by rfl) (hb : (listed.setIfInBounds i true).getD k false = true := by rfl) (hik : (i == k) = false := by rfl) (hcl : Region.closedB md ops listed = true := by kernel_rfl) (hs : Region.noSelect ops = true := by kernel_rfl) (hf : Region.free md ops listed i = true := by kernel_rfl) (hr : (Region.ready md ops listed).contains i = true := by kernel_rfl) (hQ : ∀ c a w, Q (.panic c) (a.put oi.dst undef) w → Q (.panic c) a w := by exact fun _ _ _ h => h) : wpAnyI n P md k ops Q S (fuel + 1) listed a w :=
  wpAnyI_pure hi hik hcl hs hf hr hQ (Or.inr ⟨hw, rfl⟩) (fun e => absurd (hb.symm.trans e) (by decide)) h
theorem kTI (i : Nat) (l : List Nat) {oi : Oper} {v : Value} {fuel : Nat} {listed : Array Bool} {a : Act} {w : World} (hS : S w) (hy : ∀ W, S W → (execOp a.eval oi).run P W = .ok (.value v) W) (h : wpAnyI n P md k ops Q S fuel (listed.setIfInBounds i true) (a.put oi.dst v) w) (hi : ops[i]? = some oi := by rfl) (hw : Region.wanted oi (yielded ops a.tmps) = true := by rfl) (hc : Region.downB md ops i l k = true := by kernel_rfl) (hik : (i == k) = false := by rfl) (hcl : Region.closedB md ops listed = true := by kernel_rfl) (hs : Region.noSelect ops = true := by kernel_rfl) (hf : Region.free md ops listed i = true := by kernel_rfl) (hr : (Region.ready md ops listed).contains i = true := by kernel_rfl) (hQ : ∀ c a w, Q (.panic c) (a.put oi.dst v) w → Q (.panic c) a w := by exact fun _ _ _ h => h) : wpAnyI n P md k ops Q S (fuel + 1) listed a w :=
  wpAnyI_take l hi hc hik hcl hs hf hr hQ (Or.inl ⟨hw, hy⟩) hS h
theorem kHI (i : Nat) {oi : Oper} {v : Value} {fuel : Nat} {listed : Array Bool} {a : Act} {w : World} (hS : S w) (hy : ∀ W, S W → (execOp a.eval oi).run P W = .ok (.value v) W) (h : wpAnyI n P md k ops Q S fuel (listed.setIfInBounds i true) (a.put oi.dst v) w) (hi : ops[i]? = some oi := by rfl) (hw : Region.wanted oi (yielded ops a.tmps) = true := by rfl) (hk : ops.size ≤ k := by decide) (hcl : Region.closedB md ops listed = true := by kernel_rfl) (hs : Region.noSelect ops = true := by kernel_rfl) (hf : Region.free md ops listed i = true := by kernel_rfl) (hr : (Region.ready md ops listed).contains i = true := by kernel_rfl) (hQ : ∀ c a w, Q (.panic c) (a.put oi.dst v) w → Q (.panic c) a w := by exact fun _ _ _ h => h) : wpAnyI n P md k ops Q S (fuel + 1) listed a w :=
  wpAnyI_held hi hk hcl hs hf hr hQ (Or.inl ⟨hw, hy⟩) hS h
theorem kOI (i : Nat) {o : Oper} {fuel : Nat} {listed : Array Bool} {a : Act} {w : World} (h : ∀ K' : Act → World → Prop, Shut (∀ a w, S w → (S w → wpAnyI n P md k ops Q S fuel (listed.setIfInBounds i true) a w) → K' a w) → if Region.wanted o (yielded ops a.tmps) = true then Oper.wpIn Fence.wide n P o a w K' Q else K' (a.put o.dst undef) w) (hr : Region.ready md ops listed = [i] := by kernel_rfl) (ho : ops[i]? = some o := by rfl) : wpAnyI n P md k ops Q S (fuel + 1) listed a w :=
  wpAnyI_ready hr (by simp) (AllReadyI.cons ho h AllReadyI.nil)
theorem kPI (i : Nat) {o : Oper} {fuel : Nat} {listed : Array Bool} {a : Act} {w : World} (h : ∀ K' : Act → World → Prop, Shut (∀ a w, wpAnyI n P md k ops Q S fuel (listed.setIfInBounds i true) a w → K' a w) → if Region.wanted o (yielded ops a.tmps) = true then Oper.wpIn Fence.wide n P o a w K' Q else K' (a.put o.dst undef) w) (hr : Region.ready md ops listed = [i] := by kernel_rfl) (hk : (listed.setIfInBounds i true).getD k false = true := by kernel_rfl) (ho : ops[i]? = some o := by rfl) : wpAnyI n P md k ops Q S (fuel + 1) listed a w :=
  wpAnyI_ready hr (by simp) (AllReadyI.free ho hk h AllReadyI.nil)
theorem kNI {fuel : Nat} {listed : Array Bool} {a a' : Act} {w : World} (h : wpAnyI n P md k ops Q S fuel listed a' w) (e : a = a' := by (simp only [Act.put, List.getElem_toArray, List.getElem_cons_zero, List.getElem_cons_succ, List.setIfInBounds_toArray, List.set_cons_zero, List.set_cons_succ]; try with_reducible rfl)) : wpAnyI n P md k ops Q S fuel listed a w := e ▸ h
end
end Go
