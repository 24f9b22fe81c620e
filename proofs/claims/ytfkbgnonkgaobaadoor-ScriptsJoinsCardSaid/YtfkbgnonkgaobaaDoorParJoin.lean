/- Steps appended to steps; what both are told by. -/
import Derived.Test.YtfkbgnonkgaobaaDoorParUse
import Derived.Deep.Upon
import Derived.OwnWalk
namespace Go.Proofs.YtfkbgnonkgaobaaDoor
open Go.RowKit Go.Deep
set_option linter.unusedSimpArgs false
set_option linter.unusedVariables false

theorem stpC_at {W : World} {b o : Nat} {x : Vz.Stp} (h : StpAt W b o x) (r : Nat) (u : Value) (hu : (stpC x)[r]? = some u) : W.cell? ⟨b, o + r, none⟩ = some u := by
  obtain ⟨h0, h1, h2, h3, h4, h5, h6, h7, h8⟩ := h
  match r, hu with
  | 0, hu => exact h0.trans hu
  | 1, hu => exact h1.trans hu
  | 2, hu => exact h2.trans hu
  | 3, hu => exact h3.trans hu
  | 4, hu => exact h4.trans hu
  | 5, hu => exact h5.trans hu
  | 6, hu => exact h6.trans hu
  | 7, hu => exact h7.trans hu
  | 8, hu => exact h8.trans hu
  | r + 9, hu => cases hu
theorem cells_of_steps {B : Nat} {W : World} {b o m : Nat} {L : List Vz.Stp} (h : Steps B W (some ⟨b, o, none⟩) m L) : ∀ j u, (cellsL L)[j]? = some u → W.cell? ((⟨b, o, none⟩ : Addr).add j) = some u := by
  intro j u hj
  have hlt := (List.getElem?_eq_some_iff.1 hj).1
  rw [cellsL_len] at hlt
  have hm := h.1
  obtain ⟨b', o', he, -, hi⟩ := h.2 (by omega)
  obtain ⟨rfl, rfl⟩ : b = b' ∧ o = o' := by injection he with he; injection he with h1 h2; exact ⟨h1, h2⟩
  have hs := hi (j / 9) (by omega)
  have hg := cellsL_get L (j / 9) (by omega) (j % 9) (by omega)
  rw [show j / 9 * 9 + j % 9 = j by omega, hj] at hg
  have ha : (⟨b, o, none⟩ : Addr).add j = ⟨b, o + j, none⟩ := by
    unfold Addr.add
    by_cases h0 : j = 0
    · subst h0; simp
    · simp [h0]
  rw [ha, show o + j = o + j / 9 * 9 + j % 9 by omega]
  exact stpC_at hs (j % 9) u hg.symm
theorem cellsL_one (L : List Vz.Stp) : ∀ u ∈ cellsL L, u.oneCell' = true := by
  intro u hu
  unfold cellsL at hu
  obtain ⟨x, -, hx⟩ := List.mem_flatMap.1 hu
  unfold stpC at hx
  simp at hx
  rcases hx with rfl | rfl | rfl | rfl | rfl | rfl | rfl | rfl | rfl <;> rfl
theorem cellsL_app (K L : List Vz.Stp) : cellsL (K ++ L) = cellsL K ++ cellsL L := by unfold cellsL; simp
theorem run_append_steps (w : World) (base B k m c : Nat) (v : Value) (K L : List Vz.Stp) (A : Option Addr) (hown : w.ownsRow base 33 9 v k (cellsL K)) (hS : Steps B w A m L) (hk : k ≤ 1000) (hm : m ≤ 1000) (hb : base ≤ w.heap.size) (ty : TypeId) :
    ∃ v' w', (Builtin.append_ #[22, 22] ty #[v, .slice A m c]).run Tryd.prog w = .ok v' w' ∧ w'.ownsRow base 33 9 v' (k + m) (cellsL (K ++ L)) ∧ w.grownBy w' v.ownBlock := by
  obtain ⟨i0, hi, hz0, hz1, hz2⟩ := info_parts infoStep
  have hL := hS.1
  cases A with
  | none =>
    have h0 : m = 0 := by
      rcases Nat.eq_zero_or_pos m with h | h
      · exact h
      · obtain ⟨b, o, he, _⟩ := hS.2 h
        cases he
    subst h0
    obtain rfl : L = [] := List.eq_nil_of_length_eq_zero hL.symm
    have hsrc : Src Tryd.prog i0.size 22 (.slice none 0 c) 0 [] w := Src.ofNil w Tryd.underlying22 c
    rcases hown.2 with ⟨hv, hk0⟩ | ⟨g, cap, cur, hv, _, _, hle, _⟩
    · subst hv
      subst hk0
      refine ⟨_, _, run_append_nothing w 22 22 ty 33 i0 Tryd.underlying22 hi none 0 0 (Nat.le_refl _) _ hsrc, ?_, World.grownBy.refl _ _⟩
      rw [List.append_nil]
      exact hown
    · subst hv
      refine ⟨_, _, run_append_nothing w 22 22 ty 33 i0 Tryd.underlying22 hi _ k cap hle _ hsrc, ?_, World.grownBy.refl _ _⟩
      rw [List.append_nil]
      exact hown
  | some a =>
    have ha : ∀ j u, (cellsL L)[j]? = some u → w.cell? (a.add j) = some u := by
      intro j u hj
      have hlt := (List.getElem?_eq_some_iff.1 hj).1
      rw [cellsL_len] at hlt
      obtain ⟨b, o, he, _⟩ := hS.2 (by omega)
      obtain rfl := Option.some.inj he
      exact cells_of_steps hS j u hj
    obtain ⟨v', w', h1, h2, h3, _⟩ := run_append_own (P := Tryd.prog) w base 22 ty 33 i0 _ 9 72 Tryd.underlying22 hi hz0 hz1 hz2 rfl (by decide) v k (cellsL K) hown a m c (cellsL L) (by rw [cellsL_len, hL]) ha (cellsL_one L) (by unfold maxLen; omega) (by omega) hb
    exact ⟨v', w', h1, by rw [cellsL_app]; exact h2, h3⟩
theorem wpList_append_steps (w : World) {ops : Array Oper} {rest : List Oper} {o : Oper} {a : Act} {Q : Exit → Act → World → Prop} (hgd : o.guard = none) (s x : Operand)
    (ho : o.op = .call { callee := .builtin .append, args := #[s, x], argTypes := #[22, 22] })
    (base B k m c : Nat) (v : Value) (K L : List Vz.Stp) (A : Option Addr) (hv : a.eval s = v) (hown : w.ownsRow base 33 9 v k (cellsL K)) (hx : a.eval x = .slice A m c) (hS : Steps B w A m L) (hk : k ≤ 1000) (hm : m ≤ 1000) (hb : base ≤ w.heap.size)
    (hK : ∀ v' w', w'.ownsRow base 33 9 v' (k + m) (cellsL (K ++ L)) → w.grownBy w' v.ownBlock → wpList Tryd.prog ops Q rest (a.put o.dst v') w') : wpList Tryd.prog ops Q (o :: rest) a w := by
  refine wpList_plain hgd fun K0 hK' => ?_
  obtain ⟨v', w', hrun, r1, r2⟩ := run_append_steps w base B k m c v K L A hown hS hk hm hb o.type
  unfold Oper.wp
  simp [execOp, ho, resolve, invoke, builtin, hv, hx, hrun, Result.andThen]
  exact hK' _ _ (hK v' w' r1 r2)
end Go.Proofs.YtfkbgnonkgaobaaDoor
