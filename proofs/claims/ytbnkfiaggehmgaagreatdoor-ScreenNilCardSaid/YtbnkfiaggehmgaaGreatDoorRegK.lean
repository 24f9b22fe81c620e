/- A region that draws its order: loads and quiet calls are taken first where a later operation K waits for them; what holds of the world is asked till K alone. -/
import Derived.OrdersHeld
import Derived.StillTail
import Derived.Deep.RegionHeld3
namespace Go
set_option linter.unusedSimpArgs false
set_option linter.unusedVariables false

section
variable {P : Program} {ops : Array Oper} {Q : Exit → Act → World → Prop} {md : Region.Mode} {S T : World → Prop} {k : Nat}

/-- In state a, in every world that meets S, operation o leaves v and does nothing else: by itself, or by a call that leaves the world. -/
def YieldsK (P : Program) (ops : Array Oper) (S : World → Prop) (o : Oper) (v : Value) (a : Act) : Prop :=
  (Region.wanted o (yielded ops a.tmps) = true ∧ ∀ w, S w → ((execOp a.eval o).run P w = .ok (.value v) w ∨ ∃ f args, (execOp a.eval o).run P w = .ok (.enter f args) w ∧ Calls P f args w (fun e w'' => e = .returned v ∧ w'' = w))) ∨
  (Region.wanted o (yielded ops a.tmps) = false ∧ v = undef)
theorem YieldsK.wpOp {i : Nat} {o : Oper} {v : Value} {a : Act} (hi : ops[i]? = some o) (hy : YieldsK P ops S o v a)
    {K : Act → World → Prop} {w : World} (hS : S w) (h : K (a.put o.dst v) w) : wpOp P ops Q i K a w := by
  unfold Go.wpOp
  simp only [hi]
  rcases hy with ⟨hw, hv⟩ | ⟨hw, rfl⟩
  · rw [if_pos hw]
    refine .inl ?_
    unfold Oper.wp
    rcases hv w hS with hv | ⟨f, args, hv, hc⟩
    · rw [hv]
      exact h
    · rw [hv]
      exact hc.mono fun e w'' ⟨he, hw⟩ => by subst he; subst hw; exact h
  · simp only [hw, Bool.false_eq_true, if_false]; exact h
theorem YieldsK.of_same {o : Oper} {v : Value} {a a' : Act} (hy : YieldsK P ops S o v a) (he : execOp a'.eval o = execOp a.eval o)
    (hw : Region.wanted o (yielded ops a'.tmps) = Region.wanted o (yielded ops a.tmps)) : YieldsK P ops S o v a' := by
  unfold YieldsK at *
  rw [he, hw]
  exact hy
theorem wpOp_putK {j : Nat} {oi oj : Oper} {v : Value} (hj : ops[j]? = some oj) (hap : oi.apart ops oj = true)
    (hsi : ∀ cs b, oi.op ≠ .select cs b) (hsj : ∀ cs b, oj.op ≠ .select cs b)
    (hQ : ∀ c a w, Q (.panic c) (a.put oi.dst v) w → Q (.panic c) a w) {K : Act → World → Prop} {a : Act} {w : World}
    (hy : YieldsK P ops S oi v a) (h : wpOp P ops Q j K (a.put oi.dst v) w) :
    wpOp P ops Q j (fun a' w' => YieldsK P ops S oi v a' ∧ K (a'.put oi.dst v) w') a w := by
  obtain ⟨h1, h2, h3⟩ := Oper.apart_spec hap
  have keep : ∀ (a : Act), YieldsK P ops S oi v a → ∀ u, YieldsK P ops S oi v (a.put oj.dst u) := fun a hy u =>
    hy.of_same (execOp_put oi hsi a oj.dst u h3) (wanted_put oi a oj.dst u h3)
  have keepD : ∀ d, YieldsK P ops S oi v { a with defers := d :: a.defers } := fun d => hy.of_same rfl rfl
  unfold wpOp at *
  simp only [hj] at *
  rw [wanted_put oj a oi.dst v h1] at h
  split
  · rename_i hw
    simp only [hw, if_true] at h
    rcases h with h | ⟨hasks, hlets⟩
    case inr => exact .inr ⟨by unfold Oper.asks at *; rw [execOp_put oj hsj a oi.dst v h1] at hasks; exact hasks, hlets⟩
    refine .inl ?_
    unfold Oper.wp at *
    rw [execOp_put oj hsj a oi.dst v h1] at h
    generalize (execOp a.eval oj).run P w = r at *
    cases r with
    | ok n w' =>
      cases n <;> simp only [Oper.upon] at h ⊢
      case value u => exact ⟨keep a hy u, by rw [← Act.put_comm a v u h2]; exact h⟩
      case skip => exact ⟨keep a hy _, by rw [← Act.put_comm a v undef h2]; exact h⟩
      case defer d =>
        refine ⟨keep _ (keepD d) _, ?_⟩
        rw [← Act.put_comm _ v undef h2, ← Act.put_defers]
        exact h
      case enter f args =>
        refine Calls.mono h fun e w'' he => ?_
        cases e with
        | returned u => exact ⟨keep a hy u, by rw [← Act.put_comm a v u h2]; exact he⟩
        | panicked c => exact hQ _ _ _ he
        | outgrown => exact he
      case row row args => exact Rows.mono h fun u w'' he => ⟨keep a hy u, by rw [← Act.put_comm a v u h2]; exact he⟩
    | halt x w' =>
      cases x <;> simp only [Oper.upon] at h ⊢
      case panic u => exact hQ _ _ _ h
  · rename_i hw
    simp only [hw] at h
    exact ⟨keep a hy _, by rw [← Act.put_comm a v undef h2]; exact h⟩

/-- Whatever order is picked from here on; S holds behind every operation that is carried out ahead of number k. -/
def wpAnyK (P : Program) (md : Region.Mode) (k : Nat) (ops : Array Oper) (Q : Exit → Act → World → Prop) (S : World → Prop) : Nat → Array Bool → Act → World → Prop
  | 0, listed, a, w => Region.ready md ops listed = [] ∧ Q .normal a w
  | fuel + 1, listed, a, w =>
    (Region.ready md ops listed = [] → Q .normal a w) ∧
    ∀ i ∈ Region.ready md ops listed, wpOp P ops Q i (fun a' w' => ((listed.setIfInBounds i true).getD k false = false → S w') ∧ wpAnyK P md k ops Q S fuel (listed.setIfInBounds i true) a' w') a w
theorem wpAny_of_K : ∀ (fuel : Nat) (listed : Array Bool) (a : Act) (w : World), wpAnyK P md k ops Q S fuel listed a w → wpAny P md ops Q fuel listed a w
  | 0, _, _, _, h => h
  | fuel + 1, _, _, _, h => ⟨h.1, fun i hi => wpOp_mono (fun a' w' h' => wpAny_of_K fuel _ a' w' h'.2) (h.2 i hi)⟩
theorem wpAnyK_mono {S' : World → Prop} (h : ∀ w, S' w → S w) :
    ∀ (fuel : Nat) (listed : Array Bool) (a : Act) (w : World), wpAnyK P md k ops Q S' fuel listed a w → wpAnyK P md k ops Q S fuel listed a w
  | 0, _, _, _, H => H
  | fuel + 1, _, _, _, H => ⟨H.1, fun i hi => wpOp_mono (fun a' w' h' => ⟨fun e => h _ (h'.1 e), wpAnyK_mono h fuel _ a' w' h'.2⟩) (H.2 i hi)⟩

/-- What is listed has all that it waits for listed. -/
def Region.Closed (md : Region.Mode) (ops : Array Oper) (listed : Array Bool) : Prop :=
  listed.size = ops.size ∧ ∀ j oj, ops[j]? = some oj → listed.getD j false = true → ∀ e ∈ oj.after, Region.binds md e = true → listed.getD e.on false = true
def Region.closedB (md : Region.Mode) (ops : Array Oper) (listed : Array Bool) : Bool :=
  decide (listed.size = ops.size) && (List.range ops.size).all fun j => !listed.getD j false || ((ops[j]?).map fun oj => oj.after.all fun e => !Region.binds md e || listed.getD e.on false).getD true
theorem Region.closed_spec {listed : Array Bool} (h : Region.closedB md ops listed = true) : Region.Closed md ops listed := by
  simp only [Region.closedB, Bool.and_eq_true, decide_eq_true_eq] at h
  refine ⟨h.1, ?_⟩
  replace h := h.2
  intro j oj hj hl e he hb
  have hlt := (Array.getElem?_eq_some_iff.1 hj).1
  have h1 := List.all_eq_true.1 h j (List.mem_range.2 hlt)
  simp only [hl, Bool.not_true, Bool.false_or, hj, Option.map_some, Option.getD_some] at h1
  have h2 := Array.all_eq_true_iff_forall_mem.1 h1 e he
  simpa [hb] using h2
theorem Region.Closed.set {listed : Array Bool} {i : Nat} (h : Region.Closed md ops listed) (hi : i ∈ Region.ready md ops listed) : Region.Closed md ops (listed.setIfInBounds i true) := by
  obtain ⟨_, oi, hoi, hall⟩ := mem_ready.1 hi
  refine ⟨by simp [h.1], ?_⟩
  replace h := h.2
  intro j oj hj hl e he hb
  by_cases hij : i = j
  · subst hij
    have : oj = oi := Option.some.inj (hj.symm.trans hoi)
    subst this
    exact getD_set_true (hall e he hb)
  · rw [getD_set_ne false hij] at hl
    exact getD_set_true (h j oj hj hl e he hb)
/-- From j down to i, each waits for the next. -/
def Region.downB (md : Region.Mode) (ops : Array Oper) (i : Nat) : List Nat → Nat → Bool
  | [], j => Region.waitsFor md ops j i
  | m :: l, j => Region.waitsFor md ops j m && Region.downB md ops i l m
theorem Region.down_listed {i : Nat} {listed : Array Bool} (hc : Region.Closed md ops listed) : ∀ (l : List Nat) (j : Nat), Region.downB md ops i l j = true → listed.getD j false = true → listed.getD i false = true
  | [], j, h, hl => by
    obtain ⟨oj, hj, e, he, hb, rfl⟩ := Region.waitsFor_spec h
    exact hc.2 j oj hj hl e he hb
  | m :: l, j, h, hl => by
    simp only [Region.downB, Bool.and_eq_true] at h
    obtain ⟨oj, hj, e, he, hb, hm⟩ := Region.waitsFor_spec h.1
    exact Region.down_listed hc l m h.2 (hm ▸ hc.2 j oj hj hl e he hb)
theorem Region.down_ready {i : Nat} {listed : Array Bool} (hc : Region.Closed md ops listed) : ∀ (l : List Nat) (j : Nat), Region.downB md ops i l j = true → j ∈ Region.ready md ops listed → listed.getD i false = true
  | [], j, h, hl => by
    obtain ⟨oj, hj, e, he, hb, rfl⟩ := Region.waitsFor_spec h
    obtain ⟨_, o', ho', hall⟩ := mem_ready.1 hl
    obtain rfl : o' = oj := Option.some.inj (ho'.symm.trans hj)
    exact hall e he hb
  | m :: l, j, h, hl => by
    simp only [Region.downB, Bool.and_eq_true] at h
    obtain ⟨oj, hj, e, he, hb, hm⟩ := Region.waitsFor_spec h.1
    obtain ⟨_, o', ho', hall⟩ := mem_ready.1 hl
    obtain rfl : o' = oj := Option.some.inj (ho'.symm.trans hj)
    exact Region.down_listed hc l m h.2 (hm ▸ hall e he hb)

theorem wpAnyK_first {i : Nat} {oi : Oper} {v : Value} (hik : i ≠ k) (hi : ops[i]? = some oi) (hsel : ∀ (j : Nat) (o : Oper) cs b, ops[j]? = some o → o.op ≠ .select cs b)
    (hQ : ∀ c a w, Q (.panic c) (a.put oi.dst v) w → Q (.panic c) a w)
    (hT : ∀ listed' : Array Bool, Region.Closed md ops listed' → listed'.getD i false = false → ∀ j ∈ Region.ready md ops listed', j ≠ i → ∀ w', (((listed'.setIfInBounds i true).setIfInBounds j true).getD k false = false → S w') → T w') :
    ∀ (fuel : Nat) (listed : Array Bool) (a : Act) (w : World), Region.Closed md ops listed →
      (∀ j oj, ops[j]? = some oj → j ≠ i → listed.getD j true = false → (∀ e ∈ oj.after, Region.binds md e = true → e.on ≠ i) → oi.apart ops oj = true) →
      i ∈ Region.ready md ops listed → YieldsK P ops T oi v a → T w → ((listed.setIfInBounds i true).getD k false = false → S w) →
      wpAnyK P md k ops Q S fuel (listed.setIfInBounds i true) (a.put oi.dst v) w → wpAnyK P md k ops Q S (fuel + 1) listed a w := by
  intro fuel
  induction fuel with
  | zero =>
    intro listed a w _ _ hr hy hTw hS H
    refine ⟨fun h => (by rw [h] at hr; cases hr), fun j hj => ?_⟩
    by_cases hji : j = i
    · subst hji; exact hy.wpOp hi hTw ⟨hS, H⟩
    · have := ready_mono hj hji
      rw [H.1] at this
      cases this
  | succ fuel ih =>
    intro listed a w hcl hfree hr hy hTw hS H
    refine ⟨fun h => (by rw [h] at hr; cases hr), fun j hj => ?_⟩
    by_cases hji : j = i
    · subst hji; exact hy.wpOp hi hTw ⟨hS, H⟩
    · have h1 := H.2 j (ready_mono hj hji)
      obtain ⟨hjun, oj, hoj, hall⟩ := mem_ready.1 hj
      have hiun := (mem_ready.1 hr).1
      have hnot : ∀ e ∈ oj.after, Region.binds md e = true → e.on ≠ i := fun e he hb heq => by
        have h1 := hall e he hb
        rw [heq, getD_both hiun] at h1
        cases h1
      have h2 := wpOp_putK hoj (hfree j oj hoj hji hjun hnot) (fun cs b => hsel i oi cs b hi) (fun cs b => hsel j oj cs b hoj) hQ hy h1
      have hfree' : ∀ k ok, ops[k]? = some ok → k ≠ i → (listed.setIfInBounds j true).getD k true = false →
          (∀ e ∈ ok.after, Region.binds md e = true → e.on ≠ i) → oi.apart ops ok = true := fun k ok hk hki hun hno => by
        refine hfree k ok hk hki ?_ hno
        by_cases hjk : j = k
        · subst hjk; exact hjun
        · rw [getD_set_ne true hjk] at hun; exact hun
      refine wpOp_mono (fun a' w' h3 => ?_) h2
      have hSw : ((listed.setIfInBounds j true).setIfInBounds i true).getD k false = false → S w' := by
        rw [Array.setIfInBounds_comm _ _ hji]
        exact h3.2.1
      refine ⟨fun e => h3.2.1 ?_, ih (listed.setIfInBounds j true) a' w' (hcl.set hj) hfree' (ready_mono hr (Ne.symm hji)) h3.1 (hT listed hcl (getD_both hiun) j hj hji w' h3.2.1) hSw ?_⟩
      · rw [Array.setIfInBounds_comm _ _ (Ne.symm hji), getD_set_ne false hik]
        exact e
      · rw [Array.setIfInBounds_comm _ _ hji]
        exact h3.2.2

/-- Take number i first: a load, or a quiet call, that K waits for. -/
theorem wpAnyK_take {i : Nat} {oi : Oper} {v : Value} {fuel : Nat} {listed : Array Bool} {a : Act} {w : World} (l : List Nat) (hi : ops[i]? = some oi)
    (hc : Region.downB md ops i l k = true) (hik : (i == k) = false) (hcl : Region.closedB md ops listed = true) (hs : Region.noSelect ops = true) (hf : Region.free md ops listed i = true) (hr : (Region.ready md ops listed).contains i = true)
    (hQ : ∀ c a w, Q (.panic c) (a.put oi.dst v) w → Q (.panic c) a w) (hy : YieldsK P ops S oi v a) (hS : S w)
    (h : wpAnyK P md k ops Q S fuel (listed.setIfInBounds i true) (a.put oi.dst v) w) : wpAnyK P md k ops Q S (fuel + 1) listed a w := by
  refine wpAnyK_first (T := S) (by simpa using hik) hi (Region.noSelect_spec hs) hQ ?_ fuel listed a w (Region.closed_spec hcl) (Region.free_spec hi hf) (by simpa using hr) hy hS (fun _ => hS) h
  intro listed' hcl' hun j hj hji w' hw'
  refine hw' ?_
  have hjk : j ≠ k := by
    rintro rfl
    have := Region.down_ready hcl' l j hc hj
    rw [hun] at this
    cases this
  rw [getD_set_ne false hjk, getD_set_ne false (by simpa using hik)]
  cases hl : listed'.getD k false with
  | false => rfl
  | true =>
    have := Region.down_listed hcl' l k hc hl
    rw [hun] at this
    cases this
/-- Take number i first where K is none of the region's: S holds all through it. -/
theorem wpAnyK_held {i : Nat} {oi : Oper} {v : Value} {fuel : Nat} {listed : Array Bool} {a : Act} {w : World} (hi : ops[i]? = some oi)
    (hk : ops.size ≤ k) (hcl : Region.closedB md ops listed = true) (hs : Region.noSelect ops = true) (hf : Region.free md ops listed i = true) (hr : (Region.ready md ops listed).contains i = true)
    (hQ : ∀ c a w, Q (.panic c) (a.put oi.dst v) w → Q (.panic c) a w) (hy : YieldsK P ops S oi v a) (hS : S w)
    (h : wpAnyK P md k ops Q S fuel (listed.setIfInBounds i true) (a.put oi.dst v) w) : wpAnyK P md k ops Q S (fuel + 1) listed a w := by
  have hlt := (Array.getElem?_eq_some_iff.1 hi).1
  refine wpAnyK_first (T := S) (by omega) hi (Region.noSelect_spec hs) hQ ?_ fuel listed a w (Region.closed_spec hcl) (Region.free_spec hi hf) (by simpa using hr) hy hS (fun _ => hS) h
  intro listed' hcl' hun j hj hji w' hw'
  refine hw' ?_
  obtain ⟨_, oj, hoj, _⟩ := mem_ready.1 hj
  have hjlt := (Array.getElem?_eq_some_iff.1 hoj).1
  have hsz' : listed'.size ≤ k := by have := hcl'.1; omega
  rw [getD_set_ne false (by omega), getD_set_ne false (by omega)]
  simp [Array.getElem?_eq_none hsz']
/-- Take number i first: it yields its value in whatever world. -/
theorem wpAnyK_pure {i : Nat} {oi : Oper} {v : Value} {fuel : Nat} {listed : Array Bool} {a : Act} {w : World} (hi : ops[i]? = some oi)
    (hik : (i == k) = false) (hcl : Region.closedB md ops listed = true) (hs : Region.noSelect ops = true) (hf : Region.free md ops listed i = true) (hr : (Region.ready md ops listed).contains i = true)
    (hQ : ∀ c a w, Q (.panic c) (a.put oi.dst v) w → Q (.panic c) a w) (hy : YieldsK P ops (fun _ => True) oi v a) (hS : (listed.setIfInBounds i true).getD k false = false → S w)
    (h : wpAnyK P md k ops Q S fuel (listed.setIfInBounds i true) (a.put oi.dst v) w) : wpAnyK P md k ops Q S (fuel + 1) listed a w :=
  wpAnyK_first (T := fun _ => True) (by simpa using hik) hi (Region.noSelect_spec hs) hQ (fun _ _ _ _ _ _ _ _ => trivial) fuel listed a w (Region.closed_spec hcl) (Region.free_spec hi hf) (by simpa using hr) hy trivial hS h
/-- All have come up. -/
theorem wpAnyK_done {listed : Array Bool} {a : Act} {w : World} (hr : Region.ready md ops listed = []) (h : Q .normal a w) :
    ∀ fuel, wpAnyK P md k ops Q S fuel listed a w
  | 0 => ⟨hr, h⟩
  | _ + 1 => ⟨fun _ => h, by rw [hr]; simp⟩
/-- Each of the operations rs comes up next. -/
def AllReadyK (P : Program) (md : Region.Mode) (k : Nat) (ops : Array Oper) (Q : Exit → Act → World → Prop) (S : World → Prop) (fuel : Nat) (listed : Array Bool) (a : Act) (w : World) (rs : List Nat) : Prop :=
  ∀ i ∈ rs, wpOp P ops Q i (fun a' w' => ((listed.setIfInBounds i true).getD k false = false → S w') ∧ wpAnyK P md k ops Q S fuel (listed.setIfInBounds i true) a' w') a w
theorem AllReadyK.nil {fuel : Nat} {listed : Array Bool} {a : Act} {w : World} : AllReadyK P md k ops Q S fuel listed a w [] := fun _ h => by cases h
/-- Ahead of K: S is to be shown behind the operation. -/
theorem AllReadyK.cons {fuel : Nat} {listed : Array Bool} {a : Act} {w : World} {i : Nat} {o : Oper} {rs : List Nat} (ho : ops[i]? = some o)
    (h : ∀ K' : Act → World → Prop, Shut (∀ a w, S w → (S w → wpAnyK P md k ops Q S fuel (listed.setIfInBounds i true) a w) → K' a w) → if Region.wanted o (yielded ops a.tmps) = true then Oper.wp P o a w K' Q else K' (a.put o.dst undef) w)
    (hs : AllReadyK P md k ops Q S fuel listed a w rs) : AllReadyK P md k ops Q S fuel listed a w (i :: rs) := fun j hj => by
  rcases List.mem_cons.1 hj with rfl | hj
  · exact wpOp_step ho (fun K' hK => h K' (fun a w hS hW => hK a w ⟨fun _ => hS, hW hS⟩))
  · exact hs j hj
/-- K itself, or behind it: nothing is to be shown of the world. -/
theorem AllReadyK.free {fuel : Nat} {listed : Array Bool} {a : Act} {w : World} {i : Nat} {o : Oper} {rs : List Nat} (ho : ops[i]? = some o) (hk : (listed.setIfInBounds i true).getD k false = true)
    (h : ∀ K' : Act → World → Prop, Shut (∀ a w, wpAnyK P md k ops Q S fuel (listed.setIfInBounds i true) a w → K' a w) → if Region.wanted o (yielded ops a.tmps) = true then Oper.wp P o a w K' Q else K' (a.put o.dst undef) w)
    (hs : AllReadyK P md k ops Q S fuel listed a w rs) : AllReadyK P md k ops Q S fuel listed a w (i :: rs) := fun j hj => by
  rcases List.mem_cons.1 hj with rfl | hj
  · exact wpOp_step ho (fun K' hK => h K' (fun a w hW => hK a w ⟨fun e => absurd (hk.symm.trans e) (by decide), hW⟩))
  · exact hs j hj
theorem wpAnyK_ready {rs : List Nat} {fuel : Nat} {listed : Array Bool} {a : Act} {w : World} (hr : Region.ready md ops listed = rs) (hne : rs ≠ [])
    (h : AllReadyK P md k ops Q S fuel listed a w rs) : wpAnyK P md k ops Q S (fuel + 1) listed a w := ⟨fun h0 => absurd (hr ▸ h0) hne, hr ▸ h⟩
/-- The beginning: S is shown of the world behind the draw. -/
theorem wp_region_k {id : Nat} {a : Act} {w : World} (k : Nat) (hm : P.follows .mixedOrders = true) (hS : S w.drew)
    (h : S w.drew → wpAnyK P .any k ops Q S ops.size (Array.replicate ops.size false) a w.drew) : (Code.region id ops true).wp P Q a w :=
  wp_region_any hm (wpAny_of_K _ _ _ _ (h hS))
end
end Go
