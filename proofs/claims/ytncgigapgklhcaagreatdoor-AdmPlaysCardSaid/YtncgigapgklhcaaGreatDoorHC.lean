import Derived.OrdersHeld
import Derived.StillTail
import Derived.Deep.RegionHeld3
import Derived.RowKit
import Derived.WalkKit
import Derived.RangeFuncWrites
import Derived.RangeFuncBox
import Derived.RangeFuncNested
import Derived.OrdersIn
import Derived.ControlIn

set_option maxRecDepth 100000
set_option maxHeartbeats 16000000
/- A region that draws its order: loads and quiet calls are taken first where a later operation K waits for them; what holds of the world is asked till K alone. -/
namespace Go
set_option linter.unusedSimpArgs false
set_option linter.unusedVariables false
section
variable {P : Program} {ops : Array Oper} {Q : Exit → Act → World → Prop} {md : Region.Mode} {S T : World → Prop} {k : Nat}
def YieldsK (P : Program) (ops : Array Oper) (S : World → Prop) (o : Oper) (v : Value) (a : Act) : Prop :=
 (Region.wanted o (yielded ops a.tmps) = true ∧ ∀ w, S w → ((execOp a.eval o).run P w = .ok (.value v) w ∨ ∃ f args, (execOp a.eval o).run P w = .ok (.enter f args) w ∧ Calls P f args w (fun e w'' => e = .returned v ∧ w'' = w))) ∨
 (Region.wanted o (yielded ops a.tmps) = false ∧ v = undef)
theorem YieldsK.wpOp {i : Nat} {o : Oper} {v : Value} {a : Act} (hi : ops[i]? = some o) (hy : YieldsK P ops S o v a)
 {K : Act → World → Prop} {w : World} (hS : S w) (h : K (a.put o.dst v) w) : wpOp P ops Q i K a w := by
 unfold Go.wpOp
 simp only [hi]
 rcases hy with ⟨hw, hv⟩ | ⟨hw, rfl⟩
 · rw [if_pos hw]
   refine .inl ?_
   unfold Oper.wp
   rcases hv w hS with hv | ⟨f, args, hv, hc⟩
   · rw [hv]
     exact h
   · rw [hv]
     exact hc.mono fun e w'' ⟨he, hw⟩ => by subst he; subst hw; exact h
 · simp only [hw, Bool.false_eq_true, if_false]; exact h
theorem YieldsK.of_same {o : Oper} {v : Value} {a a' : Act} (hy : YieldsK P ops S o v a) (he : execOp a'.eval o = execOp a.eval o)
 (hw : Region.wanted o (yielded ops a'.tmps) = Region.wanted o (yielded ops a.tmps)) : YieldsK P ops S o v a' := by
 unfold YieldsK at *
 rw [he, hw]
 exact hy
theorem wpOp_putK {j : Nat} {oi oj : Oper} {v : Value} (hj : ops[j]? = some oj) (hap : oi.apart ops oj = true)
 (hsi : ∀ cs b, oi.op ≠ .select cs b) (hsj : ∀ cs b, oj.op ≠ .select cs b)
 (hQ : ∀ c a w, Q (.panic c) (a.put oi.dst v) w → Q (.panic c) a w) {K : Act → World → Prop} {a : Act} {w : World}
 (hy : YieldsK P ops S oi v a) (h : wpOp P ops Q j K (a.put oi.dst v) w) :
 wpOp P ops Q j (fun a' w' => YieldsK P ops S oi v a' ∧ K (a'.put oi.dst v) w') a w := by
 obtain ⟨h1, h2, h3⟩ := Oper.apart_spec hap
 have keep : ∀ (a : Act), YieldsK P ops S oi v a → ∀ u, YieldsK P ops S oi v (a.put oj.dst u) := fun a hy u =>
  hy.of_same (execOp_put oi hsi a oj.dst u h3) (wanted_put oi a oj.dst u h3)
 have keepD : ∀ d, YieldsK P ops S oi v { a with defers := d :: a.defers } := fun d => hy.of_same rfl rfl
 unfold wpOp at *
 simp only [hj] at *
 rw [wanted_put oj a oi.dst v h1] at h
 split
 · rename_i hw
   simp only [hw, if_true] at h
   rcases h with h | ⟨hasks, hlets⟩
   case inr => exact .inr ⟨by unfold Oper.asks at *; rw [execOp_put oj hsj a oi.dst v h1] at hasks; exact hasks, hlets⟩
   refine .inl ?_
   unfold Oper.wp at *
   rw [execOp_put oj hsj a oi.dst v h1] at h
   generalize (execOp a.eval oj).run P w = r at *
   cases r with
   | ok n w' =>
     cases n <;> simp only [Oper.upon] at h ⊢
     case value u => exact ⟨keep a hy u, by rw [← Act.put_comm a v u h2]; exact h⟩
     case skip => exact ⟨keep a hy _, by rw [← Act.put_comm a v undef h2]; exact h⟩
     case defer d =>
      refine ⟨keep _ (keepD d) _, ?_⟩
      rw [← Act.put_comm _ v undef h2, ← Act.put_defers]
      exact h
     case enter f args =>
      refine Calls.mono h fun e w'' he => ?_
      cases e with
      | returned u => exact ⟨keep a hy u, by rw [← Act.put_comm a v u h2]; exact he⟩
      | panicked c => exact hQ _ _ _ he
      | outgrown => exact he
     case row row args => exact Rows.mono h fun u w'' he => ⟨keep a hy u, by rw [← Act.put_comm a v u h2]; exact he⟩
   | halt x w' =>
     cases x <;> simp only [Oper.upon] at h ⊢
     case panic u => exact hQ _ _ _ h
 · rename_i hw
   simp only [hw] at h
   exact ⟨keep a hy _, by rw [← Act.put_comm a v undef h2]; exact h⟩
def wpAnyK (P : Program) (md : Region.Mode) (k : Nat) (ops : Array Oper) (Q : Exit → Act → World → Prop) (S : World → Prop) : Nat → Array Bool → Act → World → Prop
 | 0, listed, a, w => Region.ready md ops listed = [] ∧ Q .normal a w
 | fuel + 1, listed, a, w =>
   (Region.ready md ops listed = [] → Q .normal a w) ∧
   ∀ i ∈ Region.ready md ops listed, wpOp P ops Q i (fun a' w' => ((listed.setIfInBounds i true).getD k false = false → S w') ∧ wpAnyK P md k ops Q S fuel (listed.setIfInBounds i true) a' w') a w
theorem wpAny_of_K : ∀ (fuel : Nat) (listed : Array Bool) (a : Act) (w : World), wpAnyK P md k ops Q S fuel listed a w → wpAny P md ops Q fuel listed a w
 | 0, _, _, _, h => h
 | fuel + 1, _, _, _, h => ⟨h.1, fun i hi => wpOp_mono (fun a' w' h' => wpAny_of_K fuel _ a' w' h'.2) (h.2 i hi)⟩
def Region.Closed (md : Region.Mode) (ops : Array Oper) (listed : Array Bool) : Prop :=
 listed.size = ops.size ∧ ∀ j oj, ops[j]? = some oj → listed.getD j false = true → ∀ e ∈ oj.after, Region.binds md e = true → listed.getD e.on false = true
def Region.closedB (md : Region.Mode) (ops : Array Oper) (listed : Array Bool) : Bool :=
 decide (listed.size = ops.size) && (List.range ops.size).all fun j => !listed.getD j false || ((ops[j]?).map fun oj => oj.after.all fun e => !Region.binds md e || listed.getD e.on false).getD true
theorem Region.closed_spec {listed : Array Bool} (h : Region.closedB md ops listed = true) : Region.Closed md ops listed := by
 simp only [Region.closedB, Bool.and_eq_true, decide_eq_true_eq] at h
 refine ⟨h.1, ?_⟩
 replace h := h.2
 intro j oj hj hl e he hb
 have hlt := (Array.getElem?_eq_some_iff.1 hj).1
 have h1 := List.all_eq_true.1 h j (List.mem_range.2 hlt)
 simp only [hl, Bool.not_true, Bool.false_or, hj, Option.map_some, Option.getD_some] at h1
 have h2 := Array.all_eq_true_iff_forall_mem.1 h1 e he
 simpa [hb] using h2
theorem Region.Closed.set {listed : Array Bool} {i : Nat} (h : Region.Closed md ops listed) (hi : i ∈ Region.ready md ops listed) : Region.Closed md ops (listed.setIfInBounds i true) := by
 obtain ⟨_, oi, hoi, hall⟩ := mem_ready.1 hi
 refine ⟨by simp [h.1], ?_⟩
 replace h := h.2
 intro j oj hj hl e he hb
 by_cases hij : i = j
 · subst hij
   have : oj = oi := Option.some.inj (hj.symm.trans hoi)
   subst this
   exact getD_set_true (hall e he hb)
 · rw [getD_set_ne false hij] at hl
   exact getD_set_true (h j oj hj hl e he hb)
def Region.downB (md : Region.Mode) (ops : Array Oper) (i : Nat) : List Nat → Nat → Bool
 | [], j => Region.waitsFor md ops j i
 | m :: l, j => Region.waitsFor md ops j m && Region.downB md ops i l m
theorem Region.down_listed {i : Nat} {listed : Array Bool} (hc : Region.Closed md ops listed) : ∀ (l : List Nat) (j : Nat), Region.downB md ops i l j = true → listed.getD j false = true → listed.getD i false = true
 | [], j, h, hl => by
   obtain ⟨oj, hj, e, he, hb, rfl⟩ := Region.waitsFor_spec h
   exact hc.2 j oj hj hl e he hb
 | m :: l, j, h, hl => by
   simp only [Region.downB, Bool.and_eq_true] at h
   obtain ⟨oj, hj, e, he, hb, hm⟩ := Region.waitsFor_spec h.1
   exact Region.down_listed hc l m h.2 (hm ▸ hc.2 j oj hj hl e he hb)
theorem Region.down_ready {i : Nat} {listed : Array Bool} (hc : Region.Closed md ops listed) : ∀ (l : List Nat) (j : Nat), Region.downB md ops i l j = true → j ∈ Region.ready md ops listed → listed.getD i false = true
 | [], j, h, hl => by
   obtain ⟨oj, hj, e, he, hb, rfl⟩ := Region.waitsFor_spec h
   obtain ⟨_, o', ho', hall⟩ := mem_ready.1 hl
   obtain rfl : o' = oj := Option.some.inj (ho'.symm.trans hj)
   exact hall e he hb
 | m :: l, j, h, hl => by
   simp only [Region.downB, Bool.and_eq_true] at h
   obtain ⟨oj, hj, e, he, hb, hm⟩ := Region.waitsFor_spec h.1
   obtain ⟨_, o', ho', hall⟩ := mem_ready.1 hl
   obtain rfl : o' = oj := Option.some.inj (ho'.symm.trans hj)
   exact Region.down_listed hc l m h.2 (hm ▸ hall e he hb)
theorem wpAnyK_first {i : Nat} {oi : Oper} {v : Value} (hik : i ≠ k) (hi : ops[i]? = some oi) (hsel : ∀ (j : Nat) (o : Oper) cs b, ops[j]? = some o → o.op ≠ .select cs b)
 (hQ : ∀ c a w, Q (.panic c) (a.put oi.dst v) w → Q (.panic c) a w)
 (hT : ∀ listed' : Array Bool, Region.Closed md ops listed' → listed'.getD i false = false → ∀ j ∈ Region.ready md ops listed', j ≠ i → ∀ w', (((listed'.setIfInBounds i true).setIfInBounds j true).getD k false = false → S w') → T w') :
 ∀ (fuel : Nat) (listed : Array Bool) (a : Act) (w : World), Region.Closed md ops listed →
   (∀ j oj, ops[j]? = some oj → j ≠ i → listed.getD j true = false → (∀ e ∈ oj.after, Region.binds md e = true → e.on ≠ i) → oi.apart ops oj = true) →
   i ∈ Region.ready md ops listed → YieldsK P ops T oi v a → T w → ((listed.setIfInBounds i true).getD k false = false → S w) →
   wpAnyK P md k ops Q S fuel (listed.setIfInBounds i true) (a.put oi.dst v) w → wpAnyK P md k ops Q S (fuel + 1) listed a w := by
 intro fuel
 induction fuel with
 | zero =>
   intro listed a w _ _ hr hy hTw hS H
   refine ⟨fun h => (by rw [h] at hr; cases hr), fun j hj => ?_⟩
   by_cases hji : j = i
   · subst hji; exact hy.wpOp hi hTw ⟨hS, H⟩
   · have := ready_mono hj hji
     rw [H.1] at this
     cases this
 | succ fuel ih =>
   intro listed a w hcl hfree hr hy hTw hS H
   refine ⟨fun h => (by rw [h] at hr; cases hr), fun j hj => ?_⟩
   by_cases hji : j = i
   · subst hji; exact hy.wpOp hi hTw ⟨hS, H⟩
   · have h1 := H.2 j (ready_mono hj hji)
     obtain ⟨hjun, oj, hoj, hall⟩ := mem_ready.1 hj
     have hiun := (mem_ready.1 hr).1
     have hnot : ∀ e ∈ oj.after, Region.binds md e = true → e.on ≠ i := fun e he hb heq => by
      have h1 := hall e he hb
      rw [heq, getD_both hiun] at h1
      cases h1
     have h2 := wpOp_putK hoj (hfree j oj hoj hji hjun hnot) (fun cs b => hsel i oi cs b hi) (fun cs b => hsel j oj cs b hoj) hQ hy h1
     have hfree' : ∀ k ok, ops[k]? = some ok → k ≠ i → (listed.setIfInBounds j true).getD k true = false →
      (∀ e ∈ ok.after, Region.binds md e = true → e.on ≠ i) → oi.apart ops ok = true := fun k ok hk hki hun hno => by
      refine hfree k ok hk hki ?_ hno
      by_cases hjk : j = k
      · subst hjk; exact hjun
      · rw [getD_set_ne true hjk] at hun; exact hun
     refine wpOp_mono (fun a' w' h3 => ?_) h2
     have hSw : ((listed.setIfInBounds j true).setIfInBounds i true).getD k false = false → S w' := by
      rw [Array.setIfInBounds_comm _ _ hji]
      exact h3.2.1
     refine ⟨fun e => h3.2.1 ?_, ih (listed.setIfInBounds j true) a' w' (hcl.set hj) hfree' (ready_mono hr (Ne.symm hji)) h3.1 (hT listed hcl (getD_both hiun) j hj hji w' h3.2.1) hSw ?_⟩
     · rw [Array.setIfInBounds_comm _ _ (Ne.symm hji), getD_set_ne false hik]
       exact e
     · rw [Array.setIfInBounds_comm _ _ hji]
       exact h3.2.2
theorem wpAnyK_take {i : Nat} {oi : Oper} {v : Value} {fuel : Nat} {listed : Array Bool} {a : Act} {w : World} (l : List Nat) (hi : ops[i]? = some oi)
 (hc : Region.downB md ops i l k = true) (hik : (i == k) = false) (hcl : Region.closedB md ops listed = true) (hs : Region.noSelect ops = true) (hf : Region.free md ops listed i = true) (hr : (Region.ready md ops listed).contains i = true)
 (hQ : ∀ c a w, Q (.panic c) (a.put oi.dst v) w → Q (.panic c) a w) (hy : YieldsK P ops S oi v a) (hS : S w)
 (h : wpAnyK P md k ops Q S fuel (listed.setIfInBounds i true) (a.put oi.dst v) w) : wpAnyK P md k ops Q S (fuel + 1) listed a w := by
 refine wpAnyK_first (T := S) (by simpa using hik) hi (Region.noSelect_spec hs) hQ ?_ fuel listed a w (Region.closed_spec hcl) (Region.free_spec hi hf) (by simpa using hr) hy hS (fun _ => hS) h
 intro listed' hcl' hun j hj hji w' hw'
 refine hw' ?_
 have hjk : j ≠ k := by
  rintro rfl
  have := Region.down_ready hcl' l j hc hj
  rw [hun] at this
  cases this
 rw [getD_set_ne false hjk, getD_set_ne false (by simpa using hik)]
 cases hl : listed'.getD k false with
 | false => rfl
 | true =>
   have := Region.down_listed hcl' l k hc hl
   rw [hun] at this
   cases this
theorem wpAnyK_held {i : Nat} {oi : Oper} {v : Value} {fuel : Nat} {listed : Array Bool} {a : Act} {w : World} (hi : ops[i]? = some oi)
 (hk : ops.size ≤ k) (hcl : Region.closedB md ops listed = true) (hs : Region.noSelect ops = true) (hf : Region.free md ops listed i = true) (hr : (Region.ready md ops listed).contains i = true)
 (hQ : ∀ c a w, Q (.panic c) (a.put oi.dst v) w → Q (.panic c) a w) (hy : YieldsK P ops S oi v a) (hS : S w)
 (h : wpAnyK P md k ops Q S fuel (listed.setIfInBounds i true) (a.put oi.dst v) w) : wpAnyK P md k ops Q S (fuel + 1) listed a w := by
 have hlt := (Array.getElem?_eq_some_iff.1 hi).1
 refine wpAnyK_first (T := S) (by omega) hi (Region.noSelect_spec hs) hQ ?_ fuel listed a w (Region.closed_spec hcl) (Region.free_spec hi hf) (by simpa using hr) hy hS (fun _ => hS) h
 intro listed' hcl' hun j hj hji w' hw'
 refine hw' ?_
 obtain ⟨_, oj, hoj, _⟩ := mem_ready.1 hj
 have hjlt := (Array.getElem?_eq_some_iff.1 hoj).1
 have hsz' : listed'.size ≤ k := by have := hcl'.1; omega
 rw [getD_set_ne false (by omega), getD_set_ne false (by omega)]
 simp [Array.getElem?_eq_none hsz']
theorem wpAnyK_pure {i : Nat} {oi : Oper} {v : Value} {fuel : Nat} {listed : Array Bool} {a : Act} {w : World} (hi : ops[i]? = some oi)
 (hik : (i == k) = false) (hcl : Region.closedB md ops listed = true) (hs : Region.noSelect ops = true) (hf : Region.free md ops listed i = true) (hr : (Region.ready md ops listed).contains i = true)
 (hQ : ∀ c a w, Q (.panic c) (a.put oi.dst v) w → Q (.panic c) a w) (hy : YieldsK P ops (fun _ => True) oi v a) (hS : (listed.setIfInBounds i true).getD k false = false → S w)
 (h : wpAnyK P md k ops Q S fuel (listed.setIfInBounds i true) (a.put oi.dst v) w) : wpAnyK P md k ops Q S (fuel + 1) listed a w :=
 wpAnyK_first (T := fun _ => True) (by simpa using hik) hi (Region.noSelect_spec hs) hQ (fun _ _ _ _ _ _ _ _ => trivial) fuel listed a w (Region.closed_spec hcl) (Region.free_spec hi hf) (by simpa using hr) hy trivial hS h
/-! ### The same, shorter to call -/
theorem wpAnyK_done {listed : Array Bool} {a : Act} {w : World} (hr : Region.ready md ops listed = []) (h : Q .normal a w) :
 ∀ fuel, wpAnyK P md k ops Q S fuel listed a w
 | 0 => ⟨hr, h⟩
 | _ + 1 => ⟨fun _ => h, by rw [hr]; simp⟩
def AllReadyK (P : Program) (md : Region.Mode) (k : Nat) (ops : Array Oper) (Q : Exit → Act → World → Prop) (S : World → Prop) (fuel : Nat) (listed : Array Bool) (a : Act) (w : World) (rs : List Nat) : Prop :=
 ∀ i ∈ rs, wpOp P ops Q i (fun a' w' => ((listed.setIfInBounds i true).getD k false = false → S w') ∧ wpAnyK P md k ops Q S fuel (listed.setIfInBounds i true) a' w') a w
theorem AllReadyK.nil {fuel : Nat} {listed : Array Bool} {a : Act} {w : World} : AllReadyK P md k ops Q S fuel listed a w [] := fun _ h => by cases h
theorem AllReadyK.cons {fuel : Nat} {listed : Array Bool} {a : Act} {w : World} {i : Nat} {o : Oper} {rs : List Nat} (ho : ops[i]? = some o)
 (h : ∀ K' : Act → World → Prop, Shut (∀ a w, S w → (S w → wpAnyK P md k ops Q S fuel (listed.setIfInBounds i true) a w) → K' a w) → if Region.wanted o (yielded ops a.tmps) = true then Oper.wp P o a w K' Q else K' (a.put o.dst undef) w)
 (hs : AllReadyK P md k ops Q S fuel listed a w rs) : AllReadyK P md k ops Q S fuel listed a w (i :: rs) := fun j hj => by
 rcases List.mem_cons.1 hj with rfl | hj
 · exact wpOp_step ho (fun K' hK => h K' (fun a w hS hW => hK a w ⟨fun _ => hS, hW hS⟩))
 · exact hs j hj
theorem AllReadyK.free {fuel : Nat} {listed : Array Bool} {a : Act} {w : World} {i : Nat} {o : Oper} {rs : List Nat} (ho : ops[i]? = some o) (hk : (listed.setIfInBounds i true).getD k false = true)
 (h : ∀ K' : Act → World → Prop, Shut (∀ a w, wpAnyK P md k ops Q S fuel (listed.setIfInBounds i true) a w → K' a w) → if Region.wanted o (yielded ops a.tmps) = true then Oper.wp P o a w K' Q else K' (a.put o.dst undef) w)
 (hs : AllReadyK P md k ops Q S fuel listed a w rs) : AllReadyK P md k ops Q S fuel listed a w (i :: rs) := fun j hj => by
 rcases List.mem_cons.1 hj with rfl | hj
 · exact wpOp_step ho (fun K' hK => h K' (fun a w hW => hK a w ⟨fun e => absurd (hk.symm.trans e) (by decide), hW⟩))
 · exact hs j hj
theorem wpAnyK_ready {rs : List Nat} {fuel : Nat} {listed : Array Bool} {a : Act} {w : World} (hr : Region.ready md ops listed = rs) (hne : rs ≠ [])
 (h : AllReadyK P md k ops Q S fuel listed a w rs) : wpAnyK P md k ops Q S (fuel + 1) listed a w := ⟨fun h0 => absurd (hr ▸ h0) hne, hr ▸ h⟩
theorem wp_region_k {id : Nat} {a : Act} {w : World} (k : Nat) (hm : P.follows .mixedOrders = true) (hS : S w.drew)
 (h : S w.drew → wpAnyK P .any k ops Q S ops.size (Array.replicate ops.size false) a w.drew) : (Code.region id ops true).wp P Q a w :=
 wp_region_any hm (wpAny_of_K _ _ _ _ (h hS))
/-! ### The shortest to call -/
theorem kSK (i : Nat) {oi : Oper} {v : Value} {fuel : Nat} {listed : Array Bool} {a : Act} {w : World} (hS : S w) (h : wpAnyK P md k ops Q S fuel (listed.setIfInBounds i true) (a.put oi.dst v) w) (hi : ops[i]? = some oi := by rfl) (hy : YieldsK P ops (fun _ => True) oi v a := by (refine Or.inl ⟨by rfl, ?_⟩; intro W hSw; refine Or.inl ?_; go_simp; try with_reducible rfl)) (hik : (i == k) = false := by rfl) (hcl : Region.closedB md ops listed = true := by kernel_rfl) (hs : Region.noSelect ops = true := by kernel_rfl) (hf : Region.free md ops listed i = true := by kernel_rfl) (hr : (Region.ready md ops listed).contains i = true := by kernel_rfl) (hQ : ∀ c a w, Q (.panic c) (a.put oi.dst v) w → Q (.panic c) a w := by exact fun _ _ _ h => h) : wpAnyK P md k ops Q S (fuel + 1) listed a w :=
 wpAnyK_pure hi hik hcl hs hf hr hQ hy (fun _ => hS) h
theorem kBK (i : Nat) {oi : Oper} {v : Value} {fuel : Nat} {listed : Array Bool} {a : Act} {w : World} (h : wpAnyK P md k ops Q S fuel (listed.setIfInBounds i true) (a.put oi.dst v) w) (hi : ops[i]? = some oi := by rfl) (hy : YieldsK P ops (fun _ => True) oi v a := by (refine Or.inl ⟨by rfl, ?_⟩; intro W hSw; refine Or.inl ?_; go_simp; try with_reducible rfl)) (hb : (listed.setIfInBounds i true).getD k false = true := by rfl) (hik : (i == k) = false := by rfl) (hcl : Region.closedB md ops listed = true := by kernel_rfl) (hs : Region.noSelect ops = true := by kernel_rfl) (hf : Region.free md ops listed i = true := by kernel_rfl) (hr : (Region.ready md ops listed).contains i = true := by kernel_rfl) (hQ : ∀ c a w, Q (.panic c) (a.put oi.dst v) w → Q (.panic c) a w := by exact fun _ _ _ h => h) : wpAnyK P md k ops Q S (fuel + 1) listed a w :=
 wpAnyK_pure hi hik hcl hs hf hr hQ hy (fun e => absurd (hb.symm.trans e) (by decide)) h
theorem kTK (i : Nat) (l : List Nat) {oi : Oper} {v : Value} {fuel : Nat} {listed : Array Bool} {a : Act} {w : World} (hS : S w) (hy : ∀ W, S W → (execOp a.eval oi).run P W = .ok (.value v) W) (h : wpAnyK P md k ops Q S fuel (listed.setIfInBounds i true) (a.put oi.dst v) w) (hi : ops[i]? = some oi := by rfl) (hw : Region.wanted oi (yielded ops a.tmps) = true := by rfl) (hc : Region.downB md ops i l k = true := by kernel_rfl) (hik : (i == k) = false := by rfl) (hcl : Region.closedB md ops listed = true := by kernel_rfl) (hs : Region.noSelect ops = true := by kernel_rfl) (hf : Region.free md ops listed i = true := by kernel_rfl) (hr : (Region.ready md ops listed).contains i = true := by kernel_rfl) (hQ : ∀ c a w, Q (.panic c) (a.put oi.dst v) w → Q (.panic c) a w := by exact fun _ _ _ h => h) : wpAnyK P md k ops Q S (fuel + 1) listed a w :=
 wpAnyK_take l hi hc hik hcl hs hf hr hQ (Or.inl ⟨hw, fun W hW => Or.inl (hy W hW)⟩) hS h
theorem kHK (i : Nat) {oi : Oper} {v : Value} {fuel : Nat} {listed : Array Bool} {a : Act} {w : World} (hS : S w) (hy : ∀ W, S W → (execOp a.eval oi).run P W = .ok (.value v) W) (h : wpAnyK P md k ops Q S fuel (listed.setIfInBounds i true) (a.put oi.dst v) w) (hi : ops[i]? = some oi := by rfl) (hw : Region.wanted oi (yielded ops a.tmps) = true := by rfl) (hk : ops.size ≤ k := by decide) (hcl : Region.closedB md ops listed = true := by kernel_rfl) (hs : Region.noSelect ops = true := by kernel_rfl) (hf : Region.free md ops listed i = true := by kernel_rfl) (hr : (Region.ready md ops listed).contains i = true := by kernel_rfl) (hQ : ∀ c a w, Q (.panic c) (a.put oi.dst v) w → Q (.panic c) a w := by exact fun _ _ _ h => h) : wpAnyK P md k ops Q S (fuel + 1) listed a w :=
 wpAnyK_held hi hk hcl hs hf hr hQ (Or.inl ⟨hw, fun W hW => Or.inl (hy W hW)⟩) hS h
theorem kOK (i : Nat) {o : Oper} {fuel : Nat} {listed : Array Bool} {a : Act} {w : World} (h : ∀ K' : Act → World → Prop, Shut (∀ a w, S w → (S w → wpAnyK P md k ops Q S fuel (listed.setIfInBounds i true) a w) → K' a w) → if Region.wanted o (yielded ops a.tmps) = true then Oper.wp P o a w K' Q else K' (a.put o.dst undef) w) (hr : Region.ready md ops listed = [i] := by kernel_rfl) (ho : ops[i]? = some o := by rfl) : wpAnyK P md k ops Q S (fuel + 1) listed a w :=
 wpAnyK_ready hr (by simp) (AllReadyK.cons ho h AllReadyK.nil)
theorem kPK (i : Nat) {o : Oper} {fuel : Nat} {listed : Array Bool} {a : Act} {w : World} (h : ∀ K' : Act → World → Prop, Shut (∀ a w, wpAnyK P md k ops Q S fuel (listed.setIfInBounds i true) a w → K' a w) → if Region.wanted o (yielded ops a.tmps) = true then Oper.wp P o a w K' Q else K' (a.put o.dst undef) w) (hr : Region.ready md ops listed = [i] := by kernel_rfl) (hk : (listed.setIfInBounds i true).getD k false = true := by kernel_rfl) (ho : ops[i]? = some o := by rfl) : wpAnyK P md k ops Q S (fuel + 1) listed a w :=
 wpAnyK_ready hr (by simp) (AllReadyK.free ho hk h AllReadyK.nil)
theorem kNK {fuel : Nat} {listed : Array Bool} {a a' : Act} {w : World} (h : wpAnyK P md k ops Q S fuel listed a' w) (e : a = a' := by (simp only [Act.put, List.getElem_toArray, List.getElem_cons_zero, List.getElem_cons_succ, List.setIfInBounds_toArray, List.set_cons_zero, List.set_cons_succ]; try with_reducible rfl)) : wpAnyK P md k ops Q S fuel listed a w := e ▸ h
end
end Go
/- The law of XRegK without the arm in which an operation outgrows: it serves inside a round, too. A region that draws its order: loads and quiet calls are taken first where a later operation K waits for them; what holds of the world is asked till K alone. -/
namespace Go
set_option linter.unusedSimpArgs false
set_option linter.unusedVariables false
section
variable {P : Program} {ops : Array Oper} {Q : Exit → Act → World → Prop} {md : Region.Mode} {S T : World → Prop} {k : Nat}
def wpOpR (P : Program) (ops : Array Oper) (Q : Exit → Act → World → Prop) (i : Nat) (K : Act → World → Prop) (a : Act) (w : World) : Prop :=
 match ops[i]? with
 | none => K a w
 | some o => if Region.wanted o (yielded ops a.tmps) then o.wp P a w K Q else K (a.put o.dst undef) w
theorem wpOpR_mono {i : Nat} {a : Act} {w : World} {K K' : Act → World → Prop} (h : ∀ a w, K a w → K' a w) (hh : wpOpR P ops Q i K a w) : wpOpR P ops Q i K' a w := by
 unfold wpOpR at *
 split
 · rename_i ho
   simp only [ho] at hh
   exact h _ _ hh
 · rename_i o ho
   simp only [ho] at hh
   split
   · rename_i hw
     rw [if_pos hw] at hh
     exact Oper.wp_mono h hh
   · rename_i hw
     rw [if_neg hw] at hh
     exact h _ _ hh
theorem wpOpR_step {i : Nat} {o : Oper} {K : Act → World → Prop} {a : Act} {w : World} (ho : ops[i]? = some o)
 (h : ∀ K' : Act → World → Prop, (∀ a w, K a w → K' a w) → if Region.wanted o (yielded ops a.tmps) = true then Oper.wp P o a w K' Q else K' (a.put o.dst undef) w) : wpOpR P ops Q i K a w := by
 unfold wpOpR
 simp only [ho]
 exact h K fun _ _ h => h
def YieldsR (P : Program) (ops : Array Oper) (S : World → Prop) (o : Oper) (v : Value) (a : Act) : Prop :=
 (Region.wanted o (yielded ops a.tmps) = true ∧ ∀ w, S w → ((execOp a.eval o).run P w = .ok (.value v) w ∨ ∃ f args, (execOp a.eval o).run P w = .ok (.enter f args) w ∧ Calls P f args w (fun e w'' => e = .returned v ∧ w'' = w))) ∨
 (Region.wanted o (yielded ops a.tmps) = false ∧ v = undef)
theorem YieldsR.wpOpR {i : Nat} {o : Oper} {v : Value} {a : Act} (hi : ops[i]? = some o) (hy : YieldsR P ops S o v a)
 {K : Act → World → Prop} {w : World} (hS : S w) (h : K (a.put o.dst v) w) : wpOpR P ops Q i K a w := by
 unfold Go.wpOpR
 simp only [hi]
 rcases hy with ⟨hw, hv⟩ | ⟨hw, rfl⟩
 · rw [if_pos hw]
   unfold Oper.wp
   rcases hv w hS with hv | ⟨f, args, hv, hc⟩
   · rw [hv]
     exact h
   · rw [hv]
     exact hc.mono fun e w'' ⟨he, hw⟩ => by subst he; subst hw; exact h
 · simp only [hw, Bool.false_eq_true, if_false]; exact h
theorem YieldsR.of_same {o : Oper} {v : Value} {a a' : Act} (hy : YieldsR P ops S o v a) (he : execOp a'.eval o = execOp a.eval o)
 (hw : Region.wanted o (yielded ops a'.tmps) = Region.wanted o (yielded ops a.tmps)) : YieldsR P ops S o v a' := by
 unfold YieldsR at *
 rw [he, hw]
 exact hy
theorem wpOpR_put {j : Nat} {oi oj : Oper} {v : Value} (hj : ops[j]? = some oj) (hap : oi.apart ops oj = true)
 (hsi : ∀ cs b, oi.op ≠ .select cs b) (hsj : ∀ cs b, oj.op ≠ .select cs b)
 (hQ : ∀ c a w, Q (.panic c) (a.put oi.dst v) w → Q (.panic c) a w) {K : Act → World → Prop} {a : Act} {w : World}
 (hy : YieldsR P ops S oi v a) (h : wpOpR P ops Q j K (a.put oi.dst v) w) :
 wpOpR P ops Q j (fun a' w' => YieldsR P ops S oi v a' ∧ K (a'.put oi.dst v) w') a w := by
 obtain ⟨h1, h2, h3⟩ := Oper.apart_spec hap
 have keep : ∀ (a : Act), YieldsR P ops S oi v a → ∀ u, YieldsR P ops S oi v (a.put oj.dst u) := fun a hy u =>
  hy.of_same (execOp_put oi hsi a oj.dst u h3) (wanted_put oi a oj.dst u h3)
 have keepD : ∀ d, YieldsR P ops S oi v { a with defers := d :: a.defers } := fun d => hy.of_same rfl rfl
 unfold wpOpR at *
 simp only [hj] at *
 rw [wanted_put oj a oi.dst v h1] at h
 split
 · rename_i hw
   simp only [hw, if_true] at h
   unfold Oper.wp at *
   rw [execOp_put oj hsj a oi.dst v h1] at h
   generalize (execOp a.eval oj).run P w = r at *
   cases r with
   | ok n w' =>
     cases n <;> simp only [Oper.upon] at h ⊢
     case value u => exact ⟨keep a hy u, by rw [← Act.put_comm a v u h2]; exact h⟩
     case skip => exact ⟨keep a hy _, by rw [← Act.put_comm a v undef h2]; exact h⟩
     case defer d =>
      refine ⟨keep _ (keepD d) _, ?_⟩
      rw [← Act.put_comm _ v undef h2, ← Act.put_defers]
      exact h
     case enter f args =>
      refine Calls.mono h fun e w'' he => ?_
      cases e with
      | returned u => exact ⟨keep a hy u, by rw [← Act.put_comm a v u h2]; exact he⟩
      | panicked c => exact hQ _ _ _ he
      | outgrown => exact he
     case row row args => exact Rows.mono h fun u w'' he => ⟨keep a hy u, by rw [← Act.put_comm a v u h2]; exact he⟩
   | halt x w' =>
     cases x <;> simp only [Oper.upon] at h ⊢
     case panic u => exact hQ _ _ _ h
 · rename_i hw
   simp only [hw] at h
   exact ⟨keep a hy _, by rw [← Act.put_comm a v undef h2]; exact h⟩
def wpAnyR (P : Program) (md : Region.Mode) (k : Nat) (ops : Array Oper) (Q : Exit → Act → World → Prop) (S : World → Prop) : Nat → Array Bool → Act → World → Prop
 | 0, listed, a, w => Region.ready md ops listed = [] ∧ Q .normal a w
 | fuel + 1, listed, a, w =>
   (Region.ready md ops listed = [] → Q .normal a w) ∧
   ∀ i ∈ Region.ready md ops listed, wpOpR P ops Q i (fun a' w' => ((listed.setIfInBounds i true).getD k false = false → S w') ∧ wpAnyR P md k ops Q S fuel (listed.setIfInBounds i true) a' w') a w
theorem wpAnyR_first {i : Nat} {oi : Oper} {v : Value} (hik : i ≠ k) (hi : ops[i]? = some oi) (hsel : ∀ (j : Nat) (o : Oper) cs b, ops[j]? = some o → o.op ≠ .select cs b)
 (hQ : ∀ c a w, Q (.panic c) (a.put oi.dst v) w → Q (.panic c) a w)
 (hT : ∀ listed' : Array Bool, Region.Closed md ops listed' → listed'.getD i false = false → ∀ j ∈ Region.ready md ops listed', j ≠ i → ∀ w', (((listed'.setIfInBounds i true).setIfInBounds j true).getD k false = false → S w') → T w') :
 ∀ (fuel : Nat) (listed : Array Bool) (a : Act) (w : World), Region.Closed md ops listed →
   (∀ j oj, ops[j]? = some oj → j ≠ i → listed.getD j true = false → (∀ e ∈ oj.after, Region.binds md e = true → e.on ≠ i) → oi.apart ops oj = true) →
   i ∈ Region.ready md ops listed → YieldsR P ops T oi v a → T w → ((listed.setIfInBounds i true).getD k false = false → S w) →
   wpAnyR P md k ops Q S fuel (listed.setIfInBounds i true) (a.put oi.dst v) w → wpAnyR P md k ops Q S (fuel + 1) listed a w := by
 intro fuel
 induction fuel with
 | zero =>
   intro listed a w _ _ hr hy hTw hS H
   refine ⟨fun h => (by rw [h] at hr; cases hr), fun j hj => ?_⟩
   by_cases hji : j = i
   · subst hji; exact hy.wpOpR hi hTw ⟨hS, H⟩
   · have := ready_mono hj hji
     rw [H.1] at this
     cases this
 | succ fuel ih =>
   intro listed a w hcl hfree hr hy hTw hS H
   refine ⟨fun h => (by rw [h] at hr; cases hr), fun j hj => ?_⟩
   by_cases hji : j = i
   · subst hji; exact hy.wpOpR hi hTw ⟨hS, H⟩
   · have h1 := H.2 j (ready_mono hj hji)
     obtain ⟨hjun, oj, hoj, hall⟩ := mem_ready.1 hj
     have hiun := (mem_ready.1 hr).1
     have hnot : ∀ e ∈ oj.after, Region.binds md e = true → e.on ≠ i := fun e he hb heq => by
      have h1 := hall e he hb
      rw [heq, getD_both hiun] at h1
      cases h1
     have h2 := wpOpR_put hoj (hfree j oj hoj hji hjun hnot) (fun cs b => hsel i oi cs b hi) (fun cs b => hsel j oj cs b hoj) hQ hy h1
     have hfree' : ∀ k ok, ops[k]? = some ok → k ≠ i → (listed.setIfInBounds j true).getD k true = false →
      (∀ e ∈ ok.after, Region.binds md e = true → e.on ≠ i) → oi.apart ops ok = true := fun k ok hk hki hun hno => by
      refine hfree k ok hk hki ?_ hno
      by_cases hjk : j = k
      · subst hjk; exact hjun
      · rw [getD_set_ne true hjk] at hun; exact hun
     refine wpOpR_mono (fun a' w' h3 => ?_) h2
     have hSw : ((listed.setIfInBounds j true).setIfInBounds i true).getD k false = false → S w' := by
      rw [Array.setIfInBounds_comm _ _ hji]
      exact h3.2.1
     refine ⟨fun e => h3.2.1 ?_, ih (listed.setIfInBounds j true) a' w' (hcl.set hj) hfree' (ready_mono hr (Ne.symm hji)) h3.1 (hT listed hcl (getD_both hiun) j hj hji w' h3.2.1) hSw ?_⟩
     · rw [Array.setIfInBounds_comm _ _ (Ne.symm hji), getD_set_ne false hik]
       exact e
     · rw [Array.setIfInBounds_comm _ _ hji]
       exact h3.2.2
theorem wpAnyR_take {i : Nat} {oi : Oper} {v : Value} {fuel : Nat} {listed : Array Bool} {a : Act} {w : World} (l : List Nat) (hi : ops[i]? = some oi)
 (hc : Region.downB md ops i l k = true) (hik : (i == k) = false) (hcl : Region.closedB md ops listed = true) (hs : Region.noSelect ops = true) (hf : Region.free md ops listed i = true) (hr : (Region.ready md ops listed).contains i = true)
 (hQ : ∀ c a w, Q (.panic c) (a.put oi.dst v) w → Q (.panic c) a w) (hy : YieldsR P ops S oi v a) (hS : S w)
 (h : wpAnyR P md k ops Q S fuel (listed.setIfInBounds i true) (a.put oi.dst v) w) : wpAnyR P md k ops Q S (fuel + 1) listed a w := by
 refine wpAnyR_first (T := S) (by simpa using hik) hi (Region.noSelect_spec hs) hQ ?_ fuel listed a w (Region.closed_spec hcl) (Region.free_spec hi hf) (by simpa using hr) hy hS (fun _ => hS) h
 intro listed' hcl' hun j hj hji w' hw'
 refine hw' ?_
 have hjk : j ≠ k := by
  rintro rfl
  have := Region.down_ready hcl' l j hc hj
  rw [hun] at this
  cases this
 rw [getD_set_ne false hjk, getD_set_ne false (by simpa using hik)]
 cases hl : listed'.getD k false with
 | false => rfl
 | true =>
   have := Region.down_listed hcl' l k hc hl
   rw [hun] at this
   cases this
theorem wpAnyR_held {i : Nat} {oi : Oper} {v : Value} {fuel : Nat} {listed : Array Bool} {a : Act} {w : World} (hi : ops[i]? = some oi)
 (hk : ops.size ≤ k) (hcl : Region.closedB md ops listed = true) (hs : Region.noSelect ops = true) (hf : Region.free md ops listed i = true) (hr : (Region.ready md ops listed).contains i = true)
 (hQ : ∀ c a w, Q (.panic c) (a.put oi.dst v) w → Q (.panic c) a w) (hy : YieldsR P ops S oi v a) (hS : S w)
 (h : wpAnyR P md k ops Q S fuel (listed.setIfInBounds i true) (a.put oi.dst v) w) : wpAnyR P md k ops Q S (fuel + 1) listed a w := by
 have hlt := (Array.getElem?_eq_some_iff.1 hi).1
 refine wpAnyR_first (T := S) (by omega) hi (Region.noSelect_spec hs) hQ ?_ fuel listed a w (Region.closed_spec hcl) (Region.free_spec hi hf) (by simpa using hr) hy hS (fun _ => hS) h
 intro listed' hcl' hun j hj hji w' hw'
 refine hw' ?_
 obtain ⟨_, oj, hoj, _⟩ := mem_ready.1 hj
 have hjlt := (Array.getElem?_eq_some_iff.1 hoj).1
 have hsz' : listed'.size ≤ k := by have := hcl'.1; omega
 rw [getD_set_ne false (by omega), getD_set_ne false (by omega)]
 simp [Array.getElem?_eq_none hsz']
theorem wpAnyR_pure {i : Nat} {oi : Oper} {v : Value} {fuel : Nat} {listed : Array Bool} {a : Act} {w : World} (hi : ops[i]? = some oi)
 (hik : (i == k) = false) (hcl : Region.closedB md ops listed = true) (hs : Region.noSelect ops = true) (hf : Region.free md ops listed i = true) (hr : (Region.ready md ops listed).contains i = true)
 (hQ : ∀ c a w, Q (.panic c) (a.put oi.dst v) w → Q (.panic c) a w) (hy : YieldsR P ops (fun _ => True) oi v a) (hS : (listed.setIfInBounds i true).getD k false = false → S w)
 (h : wpAnyR P md k ops Q S fuel (listed.setIfInBounds i true) (a.put oi.dst v) w) : wpAnyR P md k ops Q S (fuel + 1) listed a w :=
 wpAnyR_first (T := fun _ => True) (by simpa using hik) hi (Region.noSelect_spec hs) hQ (fun _ _ _ _ _ _ _ _ => trivial) fuel listed a w (Region.closed_spec hcl) (Region.free_spec hi hf) (by simpa using hr) hy trivial hS h
/-! ### The same, shorter to call -/
theorem wpAnyR_done {listed : Array Bool} {a : Act} {w : World} (hr : Region.ready md ops listed = []) (h : Q .normal a w) :
 ∀ fuel, wpAnyR P md k ops Q S fuel listed a w
 | 0 => ⟨hr, h⟩
 | _ + 1 => ⟨fun _ => h, by rw [hr]; simp⟩
def AllReadyR (P : Program) (md : Region.Mode) (k : Nat) (ops : Array Oper) (Q : Exit → Act → World → Prop) (S : World → Prop) (fuel : Nat) (listed : Array Bool) (a : Act) (w : World) (rs : List Nat) : Prop :=
 ∀ i ∈ rs, wpOpR P ops Q i (fun a' w' => ((listed.setIfInBounds i true).getD k false = false → S w') ∧ wpAnyR P md k ops Q S fuel (listed.setIfInBounds i true) a' w') a w
theorem AllReadyR.nil {fuel : Nat} {listed : Array Bool} {a : Act} {w : World} : AllReadyR P md k ops Q S fuel listed a w [] := fun _ h => by cases h
theorem AllReadyR.cons {fuel : Nat} {listed : Array Bool} {a : Act} {w : World} {i : Nat} {o : Oper} {rs : List Nat} (ho : ops[i]? = some o)
 (h : ∀ K' : Act → World → Prop, Shut (∀ a w, S w → (S w → wpAnyR P md k ops Q S fuel (listed.setIfInBounds i true) a w) → K' a w) → if Region.wanted o (yielded ops a.tmps) = true then Oper.wp P o a w K' Q else K' (a.put o.dst undef) w)
 (hs : AllReadyR P md k ops Q S fuel listed a w rs) : AllReadyR P md k ops Q S fuel listed a w (i :: rs) := fun j hj => by
 rcases List.mem_cons.1 hj with rfl | hj
 · exact wpOpR_step ho (fun K' hK => h K' (fun a w hS hW => hK a w ⟨fun _ => hS, hW hS⟩))
 · exact hs j hj
theorem AllReadyR.free {fuel : Nat} {listed : Array Bool} {a : Act} {w : World} {i : Nat} {o : Oper} {rs : List Nat} (ho : ops[i]? = some o) (hk : (listed.setIfInBounds i true).getD k false = true)
 (h : ∀ K' : Act → World → Prop, Shut (∀ a w, wpAnyR P md k ops Q S fuel (listed.setIfInBounds i true) a w → K' a w) → if Region.wanted o (yielded ops a.tmps) = true then Oper.wp P o a w K' Q else K' (a.put o.dst undef) w)
 (hs : AllReadyR P md k ops Q S fuel listed a w rs) : AllReadyR P md k ops Q S fuel listed a w (i :: rs) := fun j hj => by
 rcases List.mem_cons.1 hj with rfl | hj
 · exact wpOpR_step ho (fun K' hK => h K' (fun a w hW => hK a w ⟨fun e => absurd (hk.symm.trans e) (by decide), hW⟩))
 · exact hs j hj
theorem wpAnyR_ready {rs : List Nat} {fuel : Nat} {listed : Array Bool} {a : Act} {w : World} (hr : Region.ready md ops listed = rs) (hne : rs ≠ [])
 (h : AllReadyR P md k ops Q S fuel listed a w rs) : wpAnyR P md k ops Q S (fuel + 1) listed a w := ⟨fun h0 => absurd (hr ▸ h0) hne, hr ▸ h⟩
/-! ### The shortest to call -/
theorem kSR (i : Nat) {oi : Oper} {v : Value} {fuel : Nat} {listed : Array Bool} {a : Act} {w : World} (hS : S w) (h : wpAnyR P md k ops Q S fuel (listed.setIfInBounds i true) (a.put oi.dst v) w) (hi : ops[i]? = some oi := by rfl) (hy : YieldsR P ops (fun _ => True) oi v a := by (refine Or.inl ⟨by rfl, ?_⟩; intro W hSw; refine Or.inl ?_; go_simp; try with_reducible rfl)) (hik : (i == k) = false := by rfl) (hcl : Region.closedB md ops listed = true := by kernel_rfl) (hs : Region.noSelect ops = true := by kernel_rfl) (hf : Region.free md ops listed i = true := by kernel_rfl) (hr : (Region.ready md ops listed).contains i = true := by kernel_rfl) (hQ : ∀ c a w, Q (.panic c) (a.put oi.dst v) w → Q (.panic c) a w := by exact fun _ _ _ h => h) : wpAnyR P md k ops Q S (fuel + 1) listed a w :=
 wpAnyR_pure hi hik hcl hs hf hr hQ hy (fun _ => hS) h
theorem kTR (i : Nat) (l : List Nat) {oi : Oper} {v : Value} {fuel : Nat} {listed : Array Bool} {a : Act} {w : World} (hS : S w) (hy : ∀ W, S W → (execOp a.eval oi).run P W = .ok (.value v) W) (h : wpAnyR P md k ops Q S fuel (listed.setIfInBounds i true) (a.put oi.dst v) w) (hi : ops[i]? = some oi := by rfl) (hw : Region.wanted oi (yielded ops a.tmps) = true := by rfl) (hc : Region.downB md ops i l k = true := by kernel_rfl) (hik : (i == k) = false := by rfl) (hcl : Region.closedB md ops listed = true := by kernel_rfl) (hs : Region.noSelect ops = true := by kernel_rfl) (hf : Region.free md ops listed i = true := by kernel_rfl) (hr : (Region.ready md ops listed).contains i = true := by kernel_rfl) (hQ : ∀ c a w, Q (.panic c) (a.put oi.dst v) w → Q (.panic c) a w := by exact fun _ _ _ h => h) : wpAnyR P md k ops Q S (fuel + 1) listed a w :=
 wpAnyR_take l hi hc hik hcl hs hf hr hQ (Or.inl ⟨hw, fun W hW => Or.inl (hy W hW)⟩) hS h
theorem kHR (i : Nat) {oi : Oper} {v : Value} {fuel : Nat} {listed : Array Bool} {a : Act} {w : World} (hS : S w) (hy : ∀ W, S W → (execOp a.eval oi).run P W = .ok (.value v) W) (h : wpAnyR P md k ops Q S fuel (listed.setIfInBounds i true) (a.put oi.dst v) w) (hi : ops[i]? = some oi := by rfl) (hw : Region.wanted oi (yielded ops a.tmps) = true := by rfl) (hk : ops.size ≤ k := by decide) (hcl : Region.closedB md ops listed = true := by kernel_rfl) (hs : Region.noSelect ops = true := by kernel_rfl) (hf : Region.free md ops listed i = true := by kernel_rfl) (hr : (Region.ready md ops listed).contains i = true := by kernel_rfl) (hQ : ∀ c a w, Q (.panic c) (a.put oi.dst v) w → Q (.panic c) a w := by exact fun _ _ _ h => h) : wpAnyR P md k ops Q S (fuel + 1) listed a w :=
 wpAnyR_held hi hk hcl hs hf hr hQ (Or.inl ⟨hw, fun W hW => Or.inl (hy W hW)⟩) hS h
theorem kOR (i : Nat) {o : Oper} {fuel : Nat} {listed : Array Bool} {a : Act} {w : World} (h : ∀ K' : Act → World → Prop, Shut (∀ a w, S w → (S w → wpAnyR P md k ops Q S fuel (listed.setIfInBounds i true) a w) → K' a w) → if Region.wanted o (yielded ops a.tmps) = true then Oper.wp P o a w K' Q else K' (a.put o.dst undef) w) (hr : Region.ready md ops listed = [i] := by kernel_rfl) (ho : ops[i]? = some o := by rfl) : wpAnyR P md k ops Q S (fuel + 1) listed a w :=
 wpAnyR_ready hr (by simp) (AllReadyR.cons ho h AllReadyR.nil)
theorem kPR (i : Nat) {o : Oper} {fuel : Nat} {listed : Array Bool} {a : Act} {w : World} (h : ∀ K' : Act → World → Prop, Shut (∀ a w, wpAnyR P md k ops Q S fuel (listed.setIfInBounds i true) a w → K' a w) → if Region.wanted o (yielded ops a.tmps) = true then Oper.wp P o a w K' Q else K' (a.put o.dst undef) w) (hr : Region.ready md ops listed = [i] := by kernel_rfl) (hk : (listed.setIfInBounds i true).getD k false = true := by kernel_rfl) (ho : ops[i]? = some o := by rfl) : wpAnyR P md k ops Q S (fuel + 1) listed a w :=
 wpAnyR_ready hr (by simp) (AllReadyR.free ho hk h AllReadyR.nil)
theorem kNR {fuel : Nat} {listed : Array Bool} {a a' : Act} {w : World} (h : wpAnyR P md k ops Q S fuel listed a' w) (e : a = a' := by (simp only [Act.put, List.getElem_toArray, List.getElem_cons_zero, List.getElem_cons_succ, List.setIfInBounds_toArray, List.set_cons_zero, List.set_cons_succ]; try with_reducible rfl)) : wpAnyR P md k ops Q S fuel listed a w := e ▸ h
end
end Go
namespace Go.Proofs.YtncgigapgklhcaaGreatDoor
open Go.RowKit
set_option linter.unusedSimpArgs false
set_option linter.unusedVariables false
/- A law for a range over a function whose values hang on the world at hand (a grid that the body may turn): after the kit's Derived/RangeFuncWrites.lean (wpIn_rangeFunc_ownG), whose proof it turns. Regions that draw their order inside such a round. -/
section
open Go Go.RowKit
variable {F : Fence} {n : Nat} {P : Program}
def SeqStopsT {α : Type} (F : Fence) (n : Nat) (P : Program) (g : Nat) (lb : Array Value) (encs : α → Array Value) (Kp : World → World → Prop) (S Sp : List α → Prop) (T : List α → α → World → Prop) (Gd : World → Prop) (w : World) : Prop :=
 ∀ (l : Nat) (J Jx : List α → World → Prop) (W : World), Below w.heap.size w W → AbidesFrom W.heap.size J → AbidesFrom W.heap.size Jx → (∀ s A, J s A → Gd A) →
   (∀ pre x W1, J pre W1 → T pre x W1 → YieldAt F (n - 1) P l (encs x) W1 fun e W' =>
     (e = .returned (.bool true) ∧ J (pre ++ [x]) W' ∧ Kp W1 W') ∨ (e = .returned (.bool false) ∧ Jx (pre ++ [x]) W')) →
   J [] W →
   CallsIn F n P g (#[.func (.yield l) #[] #[]] ++ lb) W fun e W' => (∃ v, e = .returned v) ∧ ((∃ xs, S xs ∧ J xs W') ∨ (∃ pre, Sp pre ∧ Jx pre W'))
theorem wpIn_rangeFunc_T {α : Type} {g : Operand} {ps : Array Tmp} {assign body : Code} {Q : Exit → Act → World → Prop} {a : Act} {w : World}
 (hro : F.round = none) (h1 : 1 ≤ n) {gf : Nat} {lb : Array Value} (hg : a.eval g = .func (.func gf) #[] lb) (hFg : F.fn gf) (eg : ∀ args w, (callFunc gf args).run P w = .ok (.enter gf args) w)
 {encs : α → Array Value} {Kp : World → World → Prop} {S Sp : List α → Prop} {T : List α → α → World → Prop} {Gd : World → Prop} {w0 : World} (hseq : SeqStopsT F (n - 1) P gf lb encs Kp S Sp T Gd w0)
 (hKt : ∀ {A B C : World}, Kp A B → Kp B C → Kp A C) (hKb : ∀ (W : World) (l : Nat) (o o' : Obj), w.heap.size ≤ l → W.heap[l]? = some o → o.isCells = false → o.isWalk = false → Kp W (W.putObj l o')) (hb0 : Below w0.heap.size w0 w) (hps : ∀ x, (encs x).size = ps.size)
 (I : List α → World → Prop) (Ix : Code → List α → World → Prop) (hI : OwnFrom w.heap.size I) (hIx : ∀ c, OwnFrom w.heap.size (Ix c)) (hT : OwnFrom w.heap.size (fun (p : List α × α) W => T p.1 p.2 W)) (hGd : ∀ s A, I s A → Gd A) (h0 : I [] w) (a₁ : α → Nat → Act) (mk : α → World → World) (Bx : α → Nat → World → Prop) (hmk : ∀ x (W : World), W.grownBy (mk x W) none) (hKm : ∀ x (W : World), Kp W (mk x W)) (hBx0 : ∀ x (W : World), Bx x W.heap.size (mk x W)) (hBxO : OwnFrom w.heap.size (fun (p : α × Nat) W => Bx p.1 p.2 W))
 (hassign : ∀ (l : Nat) (x : α) (W : World) (K : Act → World → Prop), K (a₁ x W.heap.size) (mk x W) →
   assign.wpIn (F.inRound l) (n - 1 - 1) P (Exit.then K (fun _ _ _ => False)) { tmps := (ps.zip (encs x)).foldl (fun t (p, v) => t.setIfInBounds p v) a.tmps, defers := [] } W)
 (hbody : ∀ (l : Nat) (pre : List α) (x : α) (b : Nat) (W : World), w.heap.size ≤ b → I pre W → T pre x W → Bx x b W → body.wpIn (F.inRound l) (n - 1 - 1) P (ownPostG w.heap.size Kp I Ix (pre ++ [x]) W) (a₁ x b) W)
 (hdone : ∀ (D : Nat) (xs : List α) (W : World), w.heap.size ≤ D → S xs → I xs W → W.heap[D]? = some (.deferred (some [])) → Q .normal { a with defers := { target := .collected D, args := #[] } :: a.defers } W)
 (hstop : ∀ (D : Nat) (c : Code) (pre : List α) (W : World), w.heap.size ≤ D → Sp pre → Ix c pre W → W.heap[D]? = some (.deferred (some [])) → c.wpIn F n P Q { a with defers := { target := .collected D, args := #[] } :: a.defers } W) :
 (Code.rangeFunc g ps assign body).wpIn F n P Q a w := by
 refine wpIn_rangeFunc ?_
 intro fn hfn
 rw [hro]
 obtain ⟨rec, hrec⟩ : ∃ rec : LoopState → Option Code → Loop, rec = fun st pe => { state := st, pending := pe, fn, tmps := a.tmps, params := ps, assign, body, defers := w.heap.size } := ⟨_, rfl⟩
 obtain ⟨W1, hW1⟩ : ∃ W1, (w.alloc (.deferred (some []))).alloc (.loop (rec .ready none)) = W1 := ⟨_, rfl⟩
 have hL1 : W1.heap[w.heap.size + 1]? = some (.loop (rec .ready none)) := by
  rw [← hW1]; have := World.alloc_heap_new (w.alloc (.deferred (some []))) (.loop (rec .ready none)); rwa [World.size_alloc] at this
 have hK1 : W1.heap[w.heap.size]? = some (.deferred (some [])) := by
  rw [← hW1]; exact (Below.heap_alloc _ _ _ (by simp)).trans (World.alloc_heap_new w _)
 have hI1 : I [] W1 := by rw [← hW1]; exact hI.alloc _ (hI.alloc _ h0)
 have hb1 : Below w0.heap.size w0 W1 := by
  rw [← hW1]; exact hb0.trans ((((Below.refl _ w).alloc (Nat.le_refl _) _).alloc (by simp) _).mono hb0.size)
 refine ⟨w.heap.size + 1, [{ target := .collected w.heap.size, args := #[] }], W1, { target := .fn (.func gf) lb, args := #[.func (.yield (w.heap.size + 1)) #[] #[]] }, W1, gf,
  #[.func (.yield (w.heap.size + 1)) #[] #[]] ++ lb, W1, ?_, ?_, ?_, ?_, fun _ => h1, ?_⟩
 · rw [← hW1, hrec]; exact run_enterLoop_outer _ _ _ _ _
 · simp only [resolve, hg]
   simp [go_sem]
 · intro f' hf'; simp [Target.leads] at hf'; subst hf'; exact hFg
 · simp [invoke, go_sem, eg]
 · -- THE ITERATOR's CONTRACT, AT THE CALLER's INVARIANT WITH THE TWO FACTS OF BOOK-KEEPING BESIDE IT
   have hnw : ∀ {A B : World} {row : Option Nat}, (∀ r, row = some r → W1.heap.size ≤ r ∧ ∃ o : Obj, A.heap[r]? = some o ∧ o.isWalk = true) → (∀ r, row = some r → w.heap.size ≤ r ∧ ∃ o : Obj, A.heap[r]? = some o ∧ o.isCells = false) :=
    fun hr r e => by obtain ⟨hB, o, ho, hw⟩ := hr r e; exact ⟨by rw [← hW1] at hB; simp at hB; omega, o, ho, Obj.not_cells_of_walk hw⟩
   refine (hseq (w.heap.size + 1)
    (fun pre W => I pre W ∧ W.heap[w.heap.size + 1]? = some (.loop (rec .ready none)) ∧ W.heap[w.heap.size]? = some (.deferred (some [])))
    (fun pre W => ∃ c, Ix c pre W ∧ W.heap[w.heap.size + 1]? = some (.loop (rec .done (some c))) ∧ W.heap[w.heap.size]? = some (.deferred (some [])))
    W1 hb1
    (fun s A B row hs hg' hr => ⟨hI s A B row hs.1 hg' (hnw (B := B) hr), (grownBy_keeps hg' (fun r e => (hr r e).2) hs.2.1 rfl).trans hs.2.1, (grownBy_keeps hg' (fun r e => (hr r e).2) hs.2.2 rfl).trans hs.2.2⟩)
    (fun s A B row hs hg' hr => by
      obtain ⟨c, hc, hl, hk⟩ := hs
      exact ⟨c, hIx c s A B row hc hg' (hnw (B := B) hr), (grownBy_keeps hg' (fun r e => (hr r e).2) hl rfl).trans hl, (grownBy_keeps hg' (fun r e => (hr r e).2) hk rfl).trans hk⟩)
    (fun s A hs => hGd s A hs.1)
    ?_ ⟨hI1, hL1, hK1⟩).mono ?_
   · -- ONE ROUND
     rintro pre x W0 ⟨hi0, hl0, hk0⟩ hlen0
     have hlt0 : w.heap.size + 1 < W0.heap.size := (Array.getElem?_eq_some_iff.1 hl0).1
     have hy := run_yield (P := P) (args := encs x) hl0 (by rw [hrec]; exact hps x)
     rw [hrec] at hy
     have hg0 := hmk x W0
     have hKm0 := hKm x W0
     have hbx0 := hBx0 x W0
     have hno : ∀ r, (none : Option Nat) = some r → w.heap.size ≤ r ∧ ∃ o : Obj, W0.heap[r]? = some o ∧ o.isCells = false := fun r e => by cases e
     have hi := hI pre W0 _ none hi0 hg0 hno
     have hl := (hg0.block _ hlt0 (by simp)).trans hl0
     have hk := (hg0.block _ (by omega) (by simp)).trans hk0
     have hlen : T pre x (mk x W0) := hT (pre, x) W0 _ none hlen0 hg0 hno
     refine ⟨fn, _, assign, body, hy, roundIn_of_wpIn hfn (hassign _ x W0 _ ⟨_, run_beginRound hl (by rw [hrec]), ?_⟩)⟩
     have hlt : w.heap.size + 1 < (mk x W0).heap.size := (Array.getElem?_eq_some_iff.1 hl).1
     have hbge : w.heap.size ≤ W0.heap.size := by omega
     clear hy hi0 hl0 hk0 hlen0 hno hg0
     generalize hW0 : mk x W0 = W at *
     have hl2 : (W.putObj (w.heap.size + 1) (.loop { rec .ready none with state := .busy })).heap[w.heap.size + 1]? = some (.loop { rec .ready none with state := .busy }) := World.putObj_heap_same hlt
     have hk2 : (W.putObj (w.heap.size + 1) (.loop { rec .ready none with state := .busy })).heap[w.heap.size]? = some (.deferred (some [])) := (World.putObj_heap_other (by omega)).trans hk
     have hw2 : Kp W (W.putObj (w.heap.size + 1) (.loop { rec .ready none with state := .busy })) := hKb _ _ _ _ (by omega) hl rfl rfl
     refine wpIn_mono (hbody _ pre x W0.heap.size _ hbge (hI.putObj _ hi (by omega) hl rfl) (hT.putObj (s := (pre, x)) _ hlen (by omega) hl rfl) (hBxO.putObj (s := (x, W0.heap.size)) _ hbx0 (by omega) hl rfl)) ?_
     have fin : ∀ (jump : Option Code) (W3 : World), KeepsFrom w.heap.size (W.putObj (w.heap.size + 1) (.loop { rec .ready none with state := .busy })) W3 →
      (Instr.endRound (w.heap.size + 1) jump).run P W3 = .ok (.bool jump.isNone) (W3.putObj (w.heap.size + 1) (.loop (rec (if jump.isNone then .ready else .done) jump))) ∧
      W3.heap[w.heap.size + 1]? = some (.loop { rec .ready none with state := .busy }) ∧
      (W3.putObj (w.heap.size + 1) (.loop (rec (if jump.isNone then .ready else .done) jump))).heap[w.heap.size + 1]? = some (.loop (rec (if jump.isNone then .ready else .done) jump)) ∧
      (W3.putObj (w.heap.size + 1) (.loop (rec (if jump.isNone then .ready else .done) jump))).heap[w.heap.size]? = some (.deferred (some [])) := fun jump W3 hk3 => by
      have hl3 := hk3.same _ _ (by omega) hl2 rfl
      have := run_endRound (P := P) jump hl3
      rw [hrec] at this ⊢
      exact ⟨this, by rw [hrec] at hl3; exact hl3, World.putObj_heap_same (Array.getElem?_eq_some_iff.1 hl3).1, (World.putObj_heap_other (by omega)).trans (hk3.same _ _ (Nat.le_refl _) hk2 rfl)⟩
     rintro e a3 W3 hp
     cases e with
     | normal =>
       obtain ⟨hk3, hkp3, hi3⟩ := hp
       obtain ⟨hr, hl3, hl4, hk4⟩ := fin none W3 hk3
       exact ⟨_, _, hr, .inl ⟨rfl, ⟨hI.putObj _ hi3 (by omega) hl3 rfl, hl4, hk4⟩, hKt (hKt hKm0 (hKt hw2 hkp3)) (hKb _ _ _ _ (by omega) hl3 rfl rfl)⟩⟩
     | ret =>
       obtain ⟨hk3, hi3⟩ := hp
       obtain ⟨hr, hl3, hl4, hk4⟩ := fin (some .ret) W3 hk3
       exact ⟨_, _, hr, .inr ⟨rfl, .ret, (hIx _).putObj _ hi3 (by omega) hl3 rfl, hl4, hk4⟩⟩
     | exit id =>
       obtain ⟨hk3, hi3⟩ := hp
       obtain ⟨hr, hl3, hl4, hk4⟩ := fin (some (.exit id)) W3 hk3
       exact ⟨_, _, hr, .inr ⟨rfl, .exit id, (hIx _).putObj _ hi3 (by omega) hl3 rfl, hl4, hk4⟩⟩
     | goto t =>
       obtain ⟨hk3, hi3⟩ := hp
       obtain ⟨hr, hl3, hl4, hk4⟩ := fin (some (.goto t)) W3 hk3
       exact ⟨_, _, hr, .inr ⟨rfl, .goto t, (hIx _).putObj _ hi3 (by omega) hl3 rfl, hl4, hk4⟩⟩
     | panic ch => exact hp.elim
     | outgrown => exact hp.elim
   · -- BEHIND THE ITERATOR
     rintro e W2 ⟨⟨v, rfl⟩, (⟨xs, hS, hi, hl, hk⟩ | ⟨pre, hSp, c, hi, hl, hk⟩)⟩
     · exact ⟨none, _, by have := run_endLoop (P := P) hl (by rw [hrec]; simp); rw [hrec] at this; exact this, hdone _ xs _ (Nat.le_refl _) hS (hI.putObj _ hi (by omega) hl rfl) ((World.putObj_heap_other (by omega)).trans hk)⟩
     · exact ⟨some c, _, by have := run_endLoop (P := P) hl (by rw [hrec]; simp); rw [hrec] at this; exact this, hstop _ c pre _ (Nat.le_refl _) hSp ((hIx c).putObj _ hi (by omega) hl rfl) ((World.putObj_heap_other (by omega)).trans hk)⟩
/-! ### In a round under the widest fence: what is shown of a region outside serves inside -/
theorem Oper.wpIn_of_wp {l : Nat} {o : Oper} (hd : ∀ c, o.op ≠ .defer c) {a : Act} {w : World} {K : Act → World → Prop} {Q : Exit → Act → World → Prop} (h : o.wp P a w K Q) : o.wpIn (Fence.wide.inRound l) n P a w K Q := by
 refine ⟨fun f _ => trivial, ?_⟩
 rw [Oper.semAt_eq _ _ _ hd]
 unfold Oper.wp at h
 generalize (execOp a.eval o).run P w = r at *
 cases r with
 | ok x w' =>
   cases x <;> simp only [Oper.upon] at h <;> simp only [Oper.uponIn]
   case value v => exact h
   case skip => exact h
   case defer d => exact h
   case enter f args => exact ⟨fun e => by simp [Fence.wide, Fence.inRound] at e, CallsIn.inRound l (callsIn_wide.2 h)⟩
   case row row args => exact ⟨fun e => by simp [Fence.wide, Fence.inRound] at e, fun c cs _ => let ⟨v, w', r, s⟩ := h c cs; ⟨v, w', r, stepsIn_wide.2 s⟩⟩
 | halt x w' => cases x <;> simp only [Oper.upon] at h <;> simp only [Oper.uponIn] <;> exact h
theorem wpAnyIn_of_R {ops : Array Oper} {md : Region.Mode} {Q : Exit → Act → World → Prop} {S : World → Prop} {k l : Nat} (hd : ∀ (i : Nat) (o : Oper), ops[i]? = some o → ∀ c, o.op ≠ .defer c) :
 ∀ (fuel : Nat) (listed : Array Bool) (a : Act) (w : World), wpAnyR P md k ops Q S fuel listed a w → wpAnyIn (Fence.wide.inRound l) n P md ops Q fuel listed a w
 | 0, _, _, _, h => h
 | fuel + 1, listed, a, w, h => ⟨h.1, fun i hi => by
   have h1 := wpOpR_mono (fun a' w' h' => wpAnyIn_of_R (l := l) hd fuel _ a' w' h'.2) (h.2 i hi)
   unfold wpOpR at h1
   unfold wpOpIn
   split
   · rename_i ho
     simpa only [ho] using h1
   · rename_i o ho
     simp only [ho] at h1
     split
     · rename_i hw
       rw [if_pos hw] at h1
       exact Oper.wpIn_of_wp (hd i o ho) h1
     · rename_i hw
       rw [if_neg hw] at h1
       exact ⟨fun _ _ => trivial, h1⟩⟩
def noDefer (ops : Array Oper) : Bool := ops.all fun o => match o.op with | .defer _ => false | _ => true
theorem noDefer_spec {ops : Array Oper} (h : noDefer ops = true) (i : Nat) (o : Oper) (ho : ops[i]? = some o) (c : Call) : o.op ≠ .defer c := by
 intro heq
 have := Array.all_eq_true_iff_forall_mem.1 h o (Array.mem_of_getElem? ho)
 simp [heq] at this
theorem wpIn_region_r {id : Nat} {ops : Array Oper} {Q : Exit → Act → World → Prop} {S : World → Prop} {l : Nat} {a : Act} {w : World} (k : Nat) (hm : P.follows .mixedOrders = true) (hd : noDefer ops = true) (hS : S w.drew)
 (h : S w.drew → wpAnyR P .any k ops (NoPanic Q) S ops.size (Array.replicate ops.size false) a w.drew) : (Code.region id ops true).wpIn (Fence.wide.inRound l) n P Q a w :=
 wpIn_mono (wpIn_region_any hm (wpAnyIn_of_R (fun i o ho c => noDefer_spec hd i o ho c) _ _ _ _ (h hS))) (fun e a w h => NoPanic.imp e a w h)
end
end Go.Proofs.YtncgigapgklhcaaGreatDoor
