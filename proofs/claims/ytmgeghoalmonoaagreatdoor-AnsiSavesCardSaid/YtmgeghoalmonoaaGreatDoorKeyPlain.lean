import Derived.Test.YtmgeghoalmonoaaGreatDoorRA
import Derived.Maps.OwnSet
import Derived.Maps.Ext

/- Plain: what the entries of a map of texts cost. -/
namespace Go.Proofs.YtmgeghoalmonoaaGreatDoor
open Go.Maps
set_option linter.unusedSimpArgs false
set_option linter.unusedVariables false

def costE (p : Lit × DataW Unit) : Nat := 3 + (match p.2 with | .lit (.string s) => s.length | _ => 0)
def costL : List (Lit × DataW Unit) → Nat
 | [] => 0
 | p :: l => costE p + costL l
def costD : DataW Unit → Nat
 | .map es => costL es
 | _ => 0
def foundC : Option (Lit × DataW Unit) → Nat
 | some p => costE p
 | none => 0
def costAt (D : DataW Unit) (k : Lit) : Nat := match D with
 | .map es => foundC (es.find? fun p => p.1.sameKey k)
 | _ => 0
theorem costL_insert (x : Lit × DataW Unit) : ∀ l, costL (DataW.insert x l) = costE x + costL l
 | [] => rfl
 | y :: r => by
   unfold DataW.insert
   split
   · rfl
   · show costE y + costL (DataW.insert x r) = costE x + (costE y + costL r)
     rw [costL_insert x r]
     omega
theorem filter_keep (k : Lit) : ∀ (es : List (Lit × DataW Unit)), (∀ p ∈ es, p.1 ≠ k) → es.filter (fun p => !p.1.sameKey k) = es := fun es h =>
 List.filter_eq_self.2 fun p hp => by rw [sameKey_ne (h p hp)]; rfl
theorem costL_filter (k : Lit) : ∀ (es : List (Lit × DataW Unit)), es.Pairwise (fun p q => p.1 ≠ q.1) → costL (es.filter (fun p => !p.1.sameKey k)) + foundC (es.find? fun p => p.1.sameKey k) = costL es
 | [], _ => rfl
 | y :: r, hd => by
   obtain ⟨h1, h2⟩ := List.pairwise_cons.1 hd
   cases hs : y.1.sameKey k
   · rw [List.filter_cons_of_pos (by rw [hs]; rfl), List.find?_cons_of_neg (by rw [hs]; decide)]
     show costE y + _ + _ = costE y + costL r
     have := costL_filter k r h2
     omega
   · have e := WideAt.sameKey_eq hs
     rw [List.filter_cons_of_neg (by rw [hs]; decide), List.find?_cons_of_pos (by rw [hs]), filter_keep k r (fun p hp => by rw [← e]; exact (h1 p hp).symm)]
     show costL r + costE y = costE y + costL r
     omega
theorem cost_del {D : DataW Unit} (h : Tidy D) (k : Lit) : costD (D.del k) + costAt D k = costD D := by
 obtain ⟨es, rfl, hd⟩ := h
 exact costL_filter k es hd
theorem cost_put {D : DataW Unit} (h : Tidy D) (k : Lit) (d : DataW Unit) : costD (D.put k d) + costAt D k = costE (k, d) + costD D := by
 obtain ⟨es, rfl, hd⟩ := h
 show costL (DataW.insert (k, d) _) + _ = _ + costL es
 rw [costL_insert]
 have := costL_filter k es hd
 show costE (k, d) + costL _ + foundC _ = _
 omega
theorem size_cost : ∀ (es : List (Lit × DataW Unit)), 3 * es.length ≤ costL es
 | [] => Nat.le_refl _
 | p :: l => by
   have := size_cost l
   show 3 * (l.length + 1) ≤ costE p + costL l
   unfold costE
   omega
theorem size_costD {D : DataW Unit} (h : IsMap D) : 3 * Maps.size D ≤ costD D := by
 obtain ⟨es, rfl⟩ := h
 exact size_cost es
/-- What a look-up tells of the cost. -/
theorem costAt_has {D : DataW Unit} {k : Lit} {s : List UInt8} (h : IsMap D) (hh : has D k = true) (ha : D.atKey k (.lit (.string [])) = .lit (.string s)) : costAt D k = 3 + s.length := by
 obtain ⟨es, rfl⟩ := h
 unfold costAt
 unfold DataW.atKey at ha
 simp only at ha ⊢
 cases hf : es.find? (fun p => p.1.sameKey k) with
 | none =>
   exfalso
   rw [has_eq] at hh
   obtain ⟨p, hp, hq⟩ := List.any_eq_true.1 hh
   exact absurd hq (by simpa using List.find?_eq_none.1 hf p hp)
 | some p =>
   rw [hf] at ha
   simp only at ha
   show costE p = _
   unfold costE
   rw [ha]
theorem costAt_not {D : DataW Unit} {k : Lit} (h : IsMap D) (hh : has D k = false) : costAt D k = 0 := by
 obtain ⟨es, rfl⟩ := h
 unfold costAt
 simp only
 rw [has_eq] at hh
 have : es.find? (fun p => p.1.sameKey k) = none := List.find?_eq_none.2 fun p hp => by
  have := List.any_eq_false.1 hh p hp
  simpa using this
 rw [this]
 rfl
end Go.Proofs.YtmgeghoalmonoaaGreatDoor
