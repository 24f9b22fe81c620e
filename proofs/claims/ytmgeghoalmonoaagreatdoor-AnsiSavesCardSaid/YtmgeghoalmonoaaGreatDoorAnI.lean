import Derived.Test.YtmgeghoalmonoaaGreatDoorAnH

/- Walks of ANSI.SYS: finals: the table of rules. -/
namespace Go.Proofs.YtmgeghoalmonoaaGreatDoor
open Go.RowKit
set_option linter.unusedSimpArgs false
set_option linter.unusedVariables false
set_option maxRecDepth 100000
attribute [local go_sem] alloc_drewN setCell_drewN World.cell?_alloc_some frozen_alloc_some pos_f1

abbrev Act' := An → List UInt8 → An
def stepA (a b : Int) : Act' := numA fun A l => stepN A (a * max (orN l 0 1) 1) (b * max (orN l 0 1) 1)
def placeA : Act' := numA fun A l => moveN A ⟨max (orN l 0 1) 1 - 1, max (orN l 1 1) 1 - 1⟩
def clearA : Act' := numA fun A l => if orN l 0 0 = 2 then moveN (wipeN A ⟨0, 0⟩ (endP A) A.attr) ⟨0, 0⟩ else A
def restA : Act' := numA fun A _ => wipeN A A.S.pl.at_ ⟨A.S.pl.at_.row, (endP A).col⟩ A.attr
def attrA : Act' := numA fun A l => { A with attr := applyN A.attr (l.map fun x => max x 0) }
def saveA : Act' := numA fun A _ => { A with sv := A.S.pl.at_ }
def backA : Act' := numA fun A _ => moveN A A.sv
def reportA : Act' := numA fun A l => if orN l 0 0 = 6 then pushN A (replyN A.S.pl.at_.row A.S.pl.at_.col) else A
def wrapA (b : Bool) : Act' := fun A s => if s = [61, 55] ∨ s = [63, 55] then { A with wrap := b } else A
def toldA : Act' := fun A _ => A
def rulesA : List (UInt8 × Act') := [(65, stepA (-1) 0), (66, stepA 1 0), (67, stepA 0 1), (68, stepA 0 (-1)), (72, placeA), (102, placeA), (74, clearA), (75, restA), (109, attrA), (115, saveA), (117, backA), (110, reportA), (104, wrapA true), (108, wrapA false), (112, toldA)]
def FinI (N0 : Nat) (w W : World) (L : List (Value × Act')) : Prop := Below w.heap.size w W ∧ ∀ x ∈ L, RuleF W N0 x.1 x.2
theorem FinI.add {N0 : Nat} {w W W' : World} {L : List (Value × Act')} {F : Value} {act : Act'} (h : FinI N0 w W L) (hr : RuleF W' N0 F act) (hb : Below W.heap.size W W') : FinI N0 w W' (L ++ [(F, act)]) :=
  ⟨h.1.trans (hb.mono h.1.size), fun x hx => (List.mem_append.1 hx).elim (fun hx => (h.2 x hx).later hb (Nat.le_refl _)) (fun hx => by rw [List.mem_singleton.1 hx]; exact hr)⟩
theorem FinI.below {N0 : Nat} {w W W' : World} {L : List (Value × Act')} (h : FinI N0 w W L) (hb : Below W.heap.size W W') : FinI N0 w W' L :=
  ⟨h.1.trans (hb.mono h.1.size), fun x hx => (h.2 x hx).later hb (Nat.le_refl _)⟩
def tabV (L : List (Value × Act')) : Array Value := ((rulesA.zip L).flatMap fun x => [.int .u8 (x.1.1.toNat : Int), x.2.1]).toArray
/-- The table in block g. -/
def TabF (N0 : Nat) (w W : World) (g : Nat) (L : List (Value × Act')) : Prop := FinI N0 w W L ∧ W.heap[g]? = some (.cells (tabV L) 107 (0, 0)) ∧ L.map Prod.snd = rulesA.map Prod.snd
set_option maxHeartbeats 8000000 in
theorem finals_ok (w : World) : Calls Tryz.prog 49 #[] w fun e w' => ∃ g L, e = .returned (.slice (some ⟨g, 0, none⟩) 15 15) ∧ w.heap.size ≤ g ∧ TabF w.heap.size w w' g L := by
  have HF : Hid (FinI w.heap.size w w []) := ⟨Below.refl _ _, by simp⟩
  go_enter Tryz.func49, Tryz.ntmps49
  go_wp2_with (first
    | (go_at_call 65; refine (steps_ok _ _ (by decide) (by decide) w.heap.size _ HF.out.1.size).mono ?_; rintro e w3 ⟨c, rfl, hr, hb3⟩; have HF2 := Lib.hid (HF.out.add hr hb3); clear HF hr hb3; have HF := HF2; clear HF2)
    | (go_at_call 66; first
        | refine (rule_numbered _ (do_place _ _) HF.out.1.size).mono ?_
        | refine (rule_numbered _ (do_clear _ _) HF.out.1.size).mono ?_
        | refine (rule_numbered _ (do_rest _ _) HF.out.1.size).mono ?_
        | refine (rule_numbered _ (do_attr _ _) HF.out.1.size).mono ?_
        | refine (rule_numbered _ (do_save _ _) HF.out.1.size).mono ?_
        | refine (rule_numbered _ (do_back _ _) HF.out.1.size).mono ?_
        | refine (rule_numbered _ (do_report _ _) HF.out.1.size).mono ?_
       rintro e w3 ⟨c, rfl, hr, hb3⟩; have HF2 := Lib.hid (HF.out.add hr hb3); clear HF hr hb3; have HF := HF2; clear HF2)
    | (go_at_call 74; refine (wraps_ok _ w.heap.size _ HF.out.1.size).mono ?_; rintro e w3 ⟨c, rfl, hr, hb3⟩; have HF2 := Lib.hid (HF.out.add hr hb3); clear HF hr hb3; have HF := HF2; clear HF2))
  go_ret
  exact ⟨_, _, rfl, HF.out.1.size, (HF.out.add (rule_told w3 _) (Below.refl _ w3)).below (below1 w3 _), heap_alloc_new w3 _, rfl⟩
theorem tab_at : ∀ (R : List (UInt8 × Act')) (L : List (Value × Act')) (k : Nat) (r : UInt8 × Act'), L.map Prod.snd = R.map Prod.snd → R[k]? = some r →
    ∃ F, L[k]? = some (F, r.2) ∧ ((R.zip L).flatMap fun x => [Value.int .u8 (x.1.1.toNat : Int), x.2.1])[k * 2]? = some (.int .u8 (r.1.toNat : Int)) ∧ ((R.zip L).flatMap fun x => [Value.int .u8 (x.1.1.toNat : Int), x.2.1])[k * 2 + 1]? = some F
  | [], _, k, r, _, h => by simp at h
  | q :: R, [], k, r, hm, h => by simp at hm
  | q :: R, (F, a) :: L, 0, r, hm, h => by
    simp only [List.getElem?_cons_zero, Option.some.injEq] at h
    subst h
    simp only [List.map_cons, List.cons.injEq] at hm
    exact ⟨F, by rw [← hm.1]; rfl, rfl, rfl⟩
  | q :: R, (F, a) :: L, k + 1, r, hm, h => by
    simp only [List.map_cons, List.cons.injEq] at hm
    obtain ⟨F', h1, h2, h3⟩ := tab_at R L k r hm.2 (by simpa using h)
    refine ⟨F', by simpa using h1, ?_, ?_⟩
    · rw [show (k + 1) * 2 = k * 2 + 2 by omega]; exact h2
    · rw [show (k + 1) * 2 + 1 = k * 2 + 1 + 2 by omega]; exact h3
/-- A rule of the table, read. -/
theorem TabF.at {N0 g k : Nat} {w W : World} {L : List (Value × Act')} {r : UInt8 × Act'} (h : TabF N0 w W g L) (hr : rulesA[k]? = some r) :
    ∃ F, RuleF W N0 F r.2 ∧ ∀ W' : World, W'.heap[g]? = W.heap[g]? → W'.cell? ⟨g, k * 2, none⟩ = some (.int .u8 (r.1.toNat : Int)) ∧ W'.cell? ⟨g, k * 2 + 1, none⟩ = some F := by
  obtain ⟨hf, hg, hm⟩ := h
  obtain ⟨F, h1, h2, h3⟩ := tab_at rulesA L k r hm hr
  refine ⟨F, hf.2 (F, r.2) (List.mem_of_getElem? h1), fun W' he => ⟨(cell_row (he.trans hg) (k * 2)).trans ?_, (cell_row (he.trans hg) (k * 2 + 1)).trans ?_⟩⟩
  · unfold tabV; rw [List.getElem?_toArray]; exact h2
  · unfold tabV; rw [List.getElem?_toArray]; exact h3
end Go.Proofs.YtmgeghoalmonoaaGreatDoor
