import Derived.Test.YtmgeghoalmonoaaGreatDoorAnI

/- What a sequence's end does: the rules, one after another, are endN. -/
namespace Go.Proofs.YtmgeghoalmonoaaGreatDoor
open Go.RowKit
set_option linter.unusedSimpArgs false
set_option linter.unusedVariables false
set_option maxRecDepth 100000

def Dims (A B : An) : Prop := A.S.D.R = B.S.D.R ∧ A.S.D.C = B.S.D.C
theorem Dims.refl (A : An) : Dims A A := ⟨rfl, rfl⟩
theorem Dims.trans {A B C : An} (h : Dims A B) (k : Dims B C) : Dims A C := ⟨h.1.trans k.1, h.2.trans k.2⟩
theorem numA_dims {f : An → List Int → An} (hf : ∀ A l, Dims (f A l) A) (A : An) (s : List UInt8) : Dims (numA f A s) A := by
  unfold numA
  split
  · exact hf _ _
  · exact Dims.refl A
theorem wipeN_dims (A : An) (p q : Vz.Ps) (z : Int) : Dims (wipeN A p q z) A := wipeD_R _ _ _ _ _
theorem rules_dims : ∀ r ∈ rulesA, ∀ A s, Dims (r.2 A s) A := by
  intro r hr A s
  simp only [rulesA, List.mem_cons, List.not_mem_nil, or_false] at hr
  rcases hr with rfl | rfl | rfl | rfl | rfl | rfl | rfl | rfl | rfl | rfl | rfl | rfl | rfl | rfl | rfl
  · refine numA_dims ?_ A s; exact fun A l => ⟨rfl, rfl⟩
  · refine numA_dims ?_ A s; exact fun A l => ⟨rfl, rfl⟩
  · refine numA_dims ?_ A s; exact fun A l => ⟨rfl, rfl⟩
  · refine numA_dims ?_ A s; exact fun A l => ⟨rfl, rfl⟩
  · refine numA_dims ?_ A s; exact fun A l => ⟨rfl, rfl⟩
  · refine numA_dims ?_ A s; exact fun A l => ⟨rfl, rfl⟩
  · exact numA_dims (fun A l => by
      show Dims (if _ then _ else _) A
      split
      · exact wipeN_dims A _ _ _
      · exact Dims.refl A) A s
  · exact numA_dims (fun A l => wipeN_dims A _ _ _) A s
  · refine numA_dims ?_ A s; exact fun A l => ⟨rfl, rfl⟩
  · refine numA_dims ?_ A s; exact fun A l => ⟨rfl, rfl⟩
  · refine numA_dims ?_ A s; exact fun A l => ⟨rfl, rfl⟩
  · exact numA_dims (fun A l => by
      show Dims (if _ then _ else _) A
      split
      · exact ⟨rfl, rfl⟩
      · exact ⟨rfl, rfl⟩) A s
  · show Dims (if _ then _ else _) A
    split
    · exact ⟨rfl, rfl⟩
    · exact ⟨rfl, rfl⟩
  · show Dims (if _ then _ else _) A
    split
    · exact ⟨rfl, rfl⟩
    · exact ⟨rfl, rfl⟩
  · exact Dims.refl A
def runA (b : UInt8) (s : List UInt8) (A : An) (k : Nat) : An := (rulesA.take k).foldl (fun A r => if r.1 = b then r.2 A s else A) A
theorem runA_succ {b : UInt8} {s : List UInt8} {A : An} {k : Nat} {r : UInt8 × Act'} (h : rulesA[k]? = some r) : runA b s A (k + 1) = if r.1 = b then r.2 (runA b s A k) s else runA b s A k := by
  unfold runA
  rw [List.take_add_one, h, List.foldl_append]
  rfl
theorem runA_dims (b : UInt8) (s : List UInt8) (A : An) : ∀ k, Dims (runA b s A k) A
  | 0 => Dims.refl A
  | k + 1 => by
    have ih := runA_dims b s A k
    cases h : rulesA[k]? with
    | none =>
      have : runA b s A (k + 1) = runA b s A k := by unfold runA; rw [List.take_add_one, h]; simp
      rw [this]; exact ih
    | some r =>
      rw [runA_succ h]
      split
      · exact (rules_dims r (List.mem_of_getElem? h) _ _).trans ih
      · exact ih
set_option maxHeartbeats 4000000 in
theorem run_end (b : UInt8) (s : List UInt8) (A : An) : runA b s A 15 = endN A b s := by
  have e : runA b s A 15 = rulesA.foldl (fun A r => if r.1 = b then r.2 A s else A) A := rfl
  rw [e]
  by_cases h1 : b = 65; · subst h1; simp [rulesA, endN, doN, stepA, numA]
  by_cases h2 : b = 66; · subst h2; simp [rulesA, endN, doN, stepA, numA]
  by_cases h3 : b = 67; · subst h3; simp [rulesA, endN, doN, stepA, numA]
  by_cases h4 : b = 68; · subst h4; simp [rulesA, endN, doN, stepA, numA]
  by_cases h5 : b = 72; · subst h5; simp [rulesA, endN, doN, placeA, numA]
  by_cases h6 : b = 102; · subst h6; simp [rulesA, endN, doN, placeA, numA]
  by_cases h7 : b = 74; · subst h7; simp [rulesA, endN, doN, clearA, numA]
  by_cases h8 : b = 75; · subst h8; simp [rulesA, endN, doN, restA, numA]
  by_cases h9 : b = 109; · subst h9; simp [rulesA, endN, doN, attrA, numA]
  by_cases h10 : b = 115; · subst h10; simp [rulesA, endN, doN, saveA, numA]
  by_cases h11 : b = 117; · subst h11; simp [rulesA, endN, doN, backA, numA]
  by_cases h12 : b = 110; · subst h12; simp [rulesA, endN, doN, reportA, numA]
  by_cases h13 : b = 104; · subst h13; simp [rulesA, endN, wrapA]
  by_cases h14 : b = 108; · subst h14; simp [rulesA, endN, wrapA]
  by_cases h15 : b = 112; · subst h15; simp [rulesA, endN, toldA]
  simp only [rulesA, List.foldl_cons, List.foldl_nil, endN, doN]
  rw [if_neg (Ne.symm h1), if_neg (Ne.symm h2), if_neg (Ne.symm h3), if_neg (Ne.symm h4), if_neg (Ne.symm h5), if_neg (Ne.symm h6), if_neg (Ne.symm h7), if_neg (Ne.symm h8), if_neg (Ne.symm h9), if_neg (Ne.symm h10), if_neg (Ne.symm h11), if_neg (Ne.symm h12), if_neg (Ne.symm h13), if_neg (Ne.symm h14), if_neg (Ne.symm h15),
    if_neg h13, if_neg h14, if_neg h15, if_neg h1, if_neg h2, if_neg h3, if_neg h4, if_neg (show ¬ (b = 72 ∨ b = 102) from fun h => h.elim h5 h6), if_neg h7, if_neg h8, if_neg h9, if_neg h10, if_neg h11, if_neg h12]
  split <;> rfl
/-- A byte that does not end a sequence. -/
theorem seq_no {A : An} {b : UInt8} (h : endsB A b = false) : seqN A b = bodyN (endsN A b) b := by
  unfold endsB at h
  have h := of_decide_eq_false h
  unfold seqN endsN
  by_cases hq : A.quo = 0
  · rw [if_neg (show ¬ ¬ A.quo = 0 from fun hh => hh hq), if_neg (show ¬ ¬ A.quo = 0 from fun hh => hh hq)]
    by_cases h34 : b = 34 ∨ b = 39
    · rw [if_pos h34, if_pos h34]
    · rw [if_neg h34, if_neg h34, if_neg (show ¬ (64 ≤ b.toNat ∧ b.toNat ≤ 126) from fun hh => h ⟨hq, h34, hh⟩)]
  · rw [if_pos hq, if_pos hq]
theorem seq_yes {A : An} {b : UInt8} (h : endsB A b = true) : endsN A b = A ∧ seqN A b = if 0 < A.lost then dropN A else endN (dropN A) b A.body := by
  unfold endsB at h
  obtain ⟨hq, h34, h64⟩ := of_decide_eq_true h
  unfold seqN endsN
  rw [if_neg (show ¬ ¬ A.quo = 0 from fun hh => hh hq), if_neg (show ¬ ¬ A.quo = 0 from fun hh => hh hq), if_neg h34, if_neg h34, if_pos h64]
  exact ⟨rfl, rfl⟩
end Go.Proofs.YtmgeghoalmonoaaGreatDoor
