import Derived.Test.YtmgeghoalmonoaaGreatDoorRemI
import Derived.Test.YtmgeghoalmonoaaGreatDoorRQ
import Derived.WalkKit
import Derived.Below
import Derived.Lib.Hide
import Derived.Lib.Builder
import Derived.Lib.AppendStr
import Derived.Maps.AppendAt
import Derived.WalkSpells
import Derived.Test.YtmgeghoalmonoaaGreatDoorShelfS

/- Walks: copyCheck, WriteString of strings.Builder (the shelf's contracts fall at this seat: its loader refuses a road in copyCheck that no run here comes to). -/
namespace Go.Proofs.YtmgeghoalmonoaaGreatDoor
open Go.RowKit
set_option linter.unusedSimpArgs false
set_option linter.unusedVariables false

theorem infoBuilder : (Tryz.prog.info? 196).map (·.size) = some 2 := by kernel_rfl
theorem liesBuilder : liesAt Tryz.prog Tryz.prog.depth 196 (2 / Tryz.prog.cellsOf 196) 0 196 1 = true := by kernel_rfl

set_option maxRecDepth 100000 in
theorem copy_fresh (b : Nat) (w : World) (h0 : w.cell? ⟨b, 0, none⟩ = some (.pointer none)) (hsh : w.shape? b = some (196, 2)) (hfz : w.frozen? ⟨b, 0, none⟩ = false) :
    Calls Tryz.prog 141 #[.pointer (some ⟨b, 0, none⟩)] w fun e w' => e = .returned (.tuple #[]) ∧ w' = w.setCell ⟨b, 0, none⟩ (.pointer (some ⟨b, 0, none⟩)) := by
  obtain ⟨j, hj, hjs⟩ := Option.map_eq_some_iff.1 infoBuilder
  go_enter Tryz.func141, Tryz.ntmps141
  go_wp2
  rw [Lib.run_to_unsafe w ⟨b, 0, none⟩ Tryz.underlying194 Tryz.underlying245 hj (by rw [hjs]; decide) hsh (Nat.zero_lt_succ 1)]
  simp only [Result.andThen]
  rw [Oper.upon_value]
  go_wp2
  rw [run_callFunc_extern Tryz.func152 (by kernel_rfl) (by kernel_rfl) (by kernel_rfl) (e := Extern.AbiNoEscape.same) (by kernel_rfl)]
  rw [Lib.run_noEscape]
  simp only [Result.andThen]
  rw [Oper.upon_value]
  go_wp2
  rw [Lib.run_from_unsafe w ⟨b, 0, none⟩ Tryz.underlying245 Tryz.underlying194 hj hsh liesBuilder]
  simp only [Result.andThen]
  rw [Oper.upon_value]
  go_wp2
  go_end0
  exact ⟨rfl, rfl⟩

set_option maxRecDepth 100000 in
theorem copy_used (b : Nat) (w : World) (h0 : w.cell? ⟨b, 0, none⟩ = some (.pointer (some ⟨b, 0, none⟩))) :
    Calls Tryz.prog 141 #[.pointer (some ⟨b, 0, none⟩)] w fun e w' => e = .returned (.tuple #[]) ∧ w' = w := by
  obtain ⟨j, hj, _⟩ := Option.map_eq_some_iff.1 infoBuilder
  go_enter Tryz.func141, Tryz.ntmps141
  go_wp2
  rw [Lib.run_neq_ptr_same w _ Tryz.underlying194 hj]
  go_wp2
  go_end0
  exact ⟨rfl, rfl⟩

theorem copy_any (B b : Nat) (bs : List Value) (w : World) (h : Lib.IsBuilder 196 5 B b bs w) :
    Calls Tryz.prog 141 #[.pointer (some ⟨b, 0, none⟩)] w fun e w' => e = .returned (.tuple #[]) ∧ (Lib.BuilderAt 196 5 B b (.pointer (some ⟨b, 0, none⟩)) bs w' ∧ Below B w w') := by
  rcases h with h | h
  · refine (copy_fresh b w h.cell0 h.shape h.frozen0).mono ?_
    rintro e w' ⟨rfl, rfl⟩
    exact ⟨rfl, h.used _, (Below.refl B w).setCell (p := ⟨b, 0, none⟩) h.1 _⟩
  · refine (copy_used b w h.cell0).mono ?_
    rintro e w' ⟨rfl, rfl⟩
    exact ⟨rfl, h, Below.refl B _⟩

set_option maxHeartbeats 2000000 in
set_option maxRecDepth 100000 in
theorem write_any (B b : Nat) (bs : List Value) (s : ByteArray) (w : World) (h : Lib.IsBuilder 196 5 B b bs w) (hlen : bs.length + s.size ≤ 1000000) (hBw : B ≤ w.heap.size) :
    Calls Tryz.prog 115 #[.pointer (some ⟨b, 0, none⟩), .string s] w fun e w' => (∃ v, e = .returned v) ∧ (Lib.BuilderAt 196 5 B b (.pointer (some ⟨b, 0, none⟩)) (bs ++ Lib.strCells s) w' ∧ Below B w w') := by
  obtain ⟨i0, hi, hz0, hz1, hz2⟩ := info_parts infoU8
  have HC := Lib.hid (copy_any B b bs w h)
  clear h
  go_enter Tryz.func115, Tryz.ntmps115
  go_wp2_with fail
  refine HC.out.mono ?_
  rintro e w1 ⟨rfl, h1, hb1⟩
  obtain ⟨hB, v, hbk, hown, hne⟩ := h1
  have c0 : w1.cell? ⟨b, 0, none⟩ = some (.pointer (some ⟨b, 0, none⟩)) := by rw [Lib.cell_of_heap hbk]; rfl
  have c1 : w1.cell? ⟨b, 1, none⟩ = some v := by rw [Lib.cell_of_heap hbk]; rfl
  go_wp2_with (at_builtin; refine Lib.wpList_append_own_string _ rfl _ _ 80 9 rfl B 5 i0 Tryz.underlying80 Tryz.underlying9 hi hz0 hz1 hz2 _ _ _ rfl hown s rfl ?c3 ?c4 ?c5 ?_)
  case c3 => unfold maxLen; omega
  case c4 => omega
  case c5 => have := hb1.size; omega
  intro v' w2 hown' hgrow _
  have hlt : b < w1.heap.size := by
    rcases Nat.lt_or_ge b w1.heap.size with h' | h'
    · exact h'
    · simp [Array.getElem?_eq_none h'] at hbk
  have hb2 : w2.heap[b]? = some (.cells #[.pointer (some ⟨b, 0, none⟩), v] 196 (0, 0)) := by
    rw [hgrow.block b hlt (fun e => hne e.symm)]
    exact hbk
  have d0 : w2.cell? ⟨b, 0, none⟩ = some (.pointer (some ⟨b, 0, none⟩)) := by rw [Lib.cell_of_heap hb2]; rfl
  have d1 : w2.cell? ⟨b, 1, none⟩ = some v := by rw [Lib.cell_of_heap hb2]; rfl
  have f1 : w2.frozen? ⟨b, 1, none⟩ = false := Lib.frozen_of_heap hb2 1
  obtain ⟨ao, n', cap, rfl⟩ : ∃ ao n' cap, v' = .slice ao n' cap := by
    rcases hown'.2 with ⟨hv, _⟩ | ⟨g, cap, cur, hv, _⟩
    · exact ⟨_, _, _, hv⟩
    · exact ⟨_, _, _, hv⟩
  go_wp2
  go_ret2
  refine ⟨⟨_, rfl⟩, ?_, ?_⟩
  · exact Lib.BuilderAt.put (T := 196) (e := 5) hB hb2 (bs' := bs ++ Lib.strCells s) (by simpa [Lib.strCells_length] using hown') (by decide)
  · exact (hb1.grown hgrow (by have := hb1.size; omega) (fun k hk => (hown.lt k hk).1)).setCell (p := ⟨b, 1, none⟩) hB _
/-! ### Texts that grow -/
/-- Block b is a builder whose bytes are l. -/
def BuildL (B b : Nat) (l : List UInt8) (w : World) : Prop := Lib.IsBuilder 196 5 B b (Lib.byteCells l) w
theorem BuildL.fresh (w : World) : BuildL w.heap.size w.heap.size [] (w.alloc (.cells #[.pointer none, .slice none 0 0] 196)) := Lib.fresh_isBuilder _ _ w
theorem ownsRow_low {W W' : World} {base : Nat} {e : TypeId} {size : Nat} {v : Value} {k : Nat} {xs : List Value} (h : W.ownsRow base e size v k xs) (hb : Below W.heap.size W W') : W'.ownsRow base e size v k xs := by
  refine ⟨h.1, ?_⟩
  rcases h.2 with h' | ⟨g, cap, cur, hv, hB, hg, rest⟩
  · exact .inl h'
  · exact .inr ⟨g, cap, cur, hv, hB, (hb.block g (Array.getElem?_eq_some_iff.1 hg).1).trans hg, rest⟩
theorem BuildL.below {B b : Nat} {l : List UInt8} {w w' : World} (h : BuildL B b l w) (hb : Below w.heap.size w w') : BuildL B b l w' := by
  have key : ∀ p, Lib.BuilderAt 196 5 B b p (Lib.byteCells l) w → Lib.BuilderAt 196 5 B b p (Lib.byteCells l) w' := fun p h => by
    obtain ⟨hB, v, h1, h2, h3⟩ := h
    exact ⟨hB, v, (hb.block b (Array.getElem?_eq_some_iff.1 h1).1).trans h1, ownsRow_low h2 hb, h3⟩
  exact h.imp (key _) (key _)
theorem BuildL.lt {B b : Nat} {l : List UInt8} {w : World} (h : BuildL B b l w) : b < w.heap.size := by
  rcases h with h | h <;> exact h.lt
theorem BuildL.ge {B b : Nat} {l : List UInt8} {w : World} (h : BuildL B b l w) : B ≤ b := by
  rcases h with h | h <;> exact h.1
theorem strCells_list (l : List UInt8) : Lib.strCells ⟨l.toArray⟩ = Lib.byteCells l := by
  simp [Lib.strCells, Lib.byteCells]
theorem write_l {B b : Nat} {l m : List UInt8} {w : World} (h : BuildL B b l w) (hlen : l.length + m.length ≤ 1000000) (hBw : B ≤ w.heap.size) :
    Calls Tryz.prog 115 #[.pointer (some ⟨b, 0, none⟩), .string ⟨m.toArray⟩] w fun e w' => (∃ v, e = .returned v) ∧ BuildL B b (l ++ m) w' ∧ Below B w w' :=
  (write_any B b _ ⟨m.toArray⟩ w h (by rw [Lib.byteCells_length]; simpa [ByteArray.size] using hlen) hBw).mono fun e w' h' => ⟨h'.1, .inr (by rw [Lib.byteCells_append, ← strCells_list m]; exact h'.2.1), h'.2.2⟩
theorem string_l {B b : Nat} {l : List UInt8} {w : World} (h : BuildL B b l w) (hBw : B ≤ w.heap.size) :
    Calls Tryz.prog 114 #[.pointer (some ⟨b, 0, none⟩)] w fun e w' => e = .returned (.string ⟨l.toArray⟩) ∧ Below B w w' := Tryz.Builder_String_any B b l w h hBw
theorem BuildL.keeps {B b : Nat} {l : List UInt8} {w w' : World} {F : Nat → Prop} (h : BuildL B b l w) (hk : Keeps F w w') (hF : ∀ k, F k → k < B) : BuildL B b l w' := by
  have key : ∀ p, Lib.BuilderAt 196 5 B b p (Lib.byteCells l) w → Lib.BuilderAt 196 5 B b p (Lib.byteCells l) w' := fun p h => by
    obtain ⟨hB, v, h1, h2, h3⟩ := h
    refine ⟨hB, v, (hk.block b (Array.getElem?_eq_some_iff.1 h1).1 (fun e => by have := hF b e; omega)).trans h1, ⟨h2.1, ?_⟩, h3⟩
    rcases h2.2 with h' | ⟨g, cap, cur, hv, hB', hg, rest⟩
    · exact .inl h'
    · exact .inr ⟨g, cap, cur, hv, hB', (hk.block g (Array.getElem?_eq_some_iff.1 hg).1 (fun e => by have := hF g e; omega)).trans hg, rest⟩
  exact h.imp (key _) (key _)
end Go.Proofs.YtmgeghoalmonoaaGreatDoor
