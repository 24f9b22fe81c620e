/- What the rows of the laws with Parse list: the table of powers, the errors' variables; the model's layout is sound. -/
import Derived.Test.YtfkbgnonkgaobaaDoorScrLaid
import Derived.Test.YtfkbgnonkgaobaaDoorParUse
namespace Go.Proofs.YtfkbgnonkgaobaaDoor
open Go.RowKit
set_option linter.unusedSimpArgs false
set_option linter.unusedVariables false

theorem laid_pick {P : Program} {W : World} {n : String} {d : DataW Unit} : ∀ (l : List (String × DataW Unit)) (ps : List MemPlace), DataW.LaidVars P W l ps → (n, d) ∈ l →
    ∃ g t cs fuel p, P.globalNamed n = some g ∧ (P.globals[g]?).map (·.type) = some t ∧ W.var? P n = some cs ∧ DataW.trod (fun _ => ()) P W 0 (fun _ => true) false fuel t cs.toList = some (d, p)
  | [], _, _, hm => by cases hm
  | (n', d') :: r, ps, h, hm => by
    obtain ⟨g, t, cs, fuel, p, q, h1, h2, h3, h4, h5, h6⟩ := h
    rcases List.mem_cons.1 hm with he | hm
    · obtain ⟨rfl, rfl⟩ : n = n' ∧ d = d' := by injection he with a b; exact ⟨a, b⟩
      exact ⟨g, t, cs, fuel, p, h1, h2, h3, h4⟩
    · exact laid_pick r q h5 hm
theorem iface_cells {P : Program} {W : World} {fuel : Nat} {t : TypeId} {ms : Array (String × TypeId)} {cs : List Value} {nm : String} {d : DataW Unit} {p : List MemPlace} (ht : P.underlying t = some (.interface ms))
    (h : DataW.trod (fun _ => ()) P W 0 (fun _ => true) false fuel t cs = some (.iface nm d, p)) : ∃ u v, cs = [.iface u v] := by
  cases fuel with
  | zero => cases h
  | succ fuel =>
    unfold DataW.trod at h
    rw [ht] at h
    split at h <;> first | (rename_i e _; cases e) | skip
    all_goals first | (cases h; done) | skip
    all_goals first | exact ⟨_, _, rfl⟩ | skip
    all_goals simp_all
theorem tErr : ∃ ms, Tryd.prog.underlying 56 = some (.interface ms) := ⟨_, Tryd.underlying56⟩
theorem tSyn : (Tryd.prog.globals[1]?).map (·.type) = some 56 := by kernel_rfl
theorem tRan : (Tryd.prog.globals[2]?).map (·.type) = some 56 := by kernel_rfl
def laid7 : List (String × DataW Unit) := [("math/bits.deBruijn32tab", Rows.laid_math_bits_deBruijn32tab), ("math/bits.deBruijn64tab", Rows.laid_math_bits_deBruijn64tab), ("internal/strconv.uint64pow10", Rows.laid_internal_strconv_uint64pow10), ("unicode/utf8.acceptRanges", Rows.laid_unicode_utf8_acceptRanges), ("strconv.ErrRange", Rows.laid_strconv_ErrRange), ("strconv.ErrSyntax", Rows.laid_strconv_ErrSyntax), ("unicode/utf8.first", Rows.laid_unicode_utf8_first)]
theorem arr_one {cs : Array Value} {u : TypeId} {v : Value} (h : cs.toList = [.iface u v]) : cs = #[.iface u v] := by
  apply Array.toList_inj.1
  rw [h]
theorem aid_laid {W : World} (h : laidMet Tryd.prog laid7 W) (hS : W.ShapedOpen Tryd.prog) : Aid W := by
  refine ⟨tab_laid h, ?_, ?_⟩
  · obtain ⟨ps, hv, _⟩ := h
    obtain ⟨ms, hms⟩ := tErr
    refine ⟨?_, ?_⟩
    · obtain ⟨g, t, cs, fuel, p, h1, h2, h3, h4⟩ := laid_pick (n := "strconv.ErrSyntax") (d := Rows.laid_strconv_ErrSyntax) laid7 ps hv (by unfold laid7; simp)
      obtain rfl : 56 = t := Option.some.inj (tSyn.symm.trans (by rw [← Option.some.inj (gSyn.symm.trans h1)] at h2; exact h2))
      obtain ⟨u, v, hc⟩ := iface_cells hms h4
      exact ⟨u, v, by rw [h3, arr_one hc]⟩
    · obtain ⟨g, t, cs, fuel, p, h1, h2, h3, h4⟩ := laid_pick (n := "strconv.ErrRange") (d := Rows.laid_strconv_ErrRange) laid7 ps hv (by unfold laid7; simp)
      obtain rfl : 56 = t := Option.some.inj (tRan.symm.trans (by rw [← Option.some.inj (gRan.symm.trans h1)] at h2; exact h2))
      obtain ⟨u, v, hc⟩ := iface_cells hms h4
      exact ⟨u, v, by rw [h3, arr_one hc]⟩
  · exact Tryd.laysM146.s1_3 W hS
end Go.Proofs.YtfkbgnonkgaobaaDoor
