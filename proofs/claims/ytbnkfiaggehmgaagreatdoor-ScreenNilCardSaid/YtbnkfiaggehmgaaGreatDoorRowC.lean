/- Rows of cells in memory by an index function; copy between rows of wide elements. -/
import Derived.WalkKit
import Derived.Below
import Derived.Laws.CopyRow
import Derived.Laws.CopyOwn
import Derived.Laws.OwnMore
import Derived.Tactics
namespace Go.Proofs.YtbnkfiaggehmgaaGreatDoor
open Go Go.RowKit
set_option linter.unusedSimpArgs false
set_option linter.unusedVariables false

/-- Block b is a row of cap cells, of which the first n hold what f says; none is frozen. -/
def RowC (W : World) (b : Nat) (t : TypeId) (cap n : Nat) (f : Nat → Value) : Prop :=
  ∃ c : Array Value, W.heap[b]? = some (.cells c t (0, 0)) ∧ c.size = cap ∧ n ≤ cap ∧ ∀ i, i < n → c[i]? = some (f i)
namespace RowC
variable {W : World} {b : Nat} {t : TypeId} {cap n : Nat} {f : Nat → Value}
theorem cell (h : RowC W b t cap n f) {i : Nat} (hi : i < n) : W.cell? ⟨b, i, none⟩ = some (f i) := by
  obtain ⟨c, hb, _, _, hc⟩ := h
  simp [World.cell?, hb, hc i hi]
theorem frozen (h : RowC W b t cap n f) (i : Nat) : W.frozen? ⟨b, i, none⟩ = false := by
  obtain ⟨c, hb, _⟩ := h
  simp [World.frozen?, hb]
theorem lt (h : RowC W b t cap n f) : b < W.heap.size := by
  obtain ⟨c, hb, _⟩ := h
  exact (Array.getElem?_eq_some_iff.1 hb).1
theorem le (h : RowC W b t cap n f) : n ≤ cap := h.choose_spec.2.2.1
theorem congr {g : Nat → Value} (h : RowC W b t cap n f) (e : ∀ i, i < n → f i = g i) : RowC W b t cap n g := by
  obtain ⟨c, hb, hn, hl, hc⟩ := h
  exact ⟨c, hb, hn, hl, fun i hi => by rw [hc i hi, e i hi]⟩
theorem of_block {W' : World} (h : RowC W b t cap n f) (e : W'.heap[b]? = W.heap[b]?) : RowC W' b t cap n f := by
  obtain ⟨c, hb, r⟩ := h
  exact ⟨c, e.trans hb, r⟩
theorem typ {t' : TypeId} {cap' n' : Nat} {f' : Nat → Value} (h : RowC W b t cap n f) (h' : RowC W b t' cap' n' f') : t = t' := by
  obtain ⟨c, hb, _⟩ := h
  obtain ⟨c', hb', _⟩ := h'
  rw [hb] at hb'
  injection hb' with e
  injection e
theorem set (h : RowC W b t cap n f) (i : Nat) (v : Value) : RowC (W.setCell ⟨b, i, none⟩ v) b t cap n (fun j => if j = i then v else f j) := by
  obtain ⟨c, hb, hn, hl, hc⟩ := h
  refine ⟨c.setIfInBounds i v, ?_, by simpa using hn, hl, fun j hj => ?_⟩
  · simp [World.setCell, Array.getElem?_modify, hb]
  · rw [Array.getElem?_setIfInBounds]
    by_cases e : j = i
    · subst e
      have : j < c.size := by omega
      simp [this]
    · rw [if_neg (fun h => e h.symm)]
      show c[j]? = some (if j = i then v else f j)
      rw [if_neg e]
      exact hc j hj
theorem less (h : RowC W b t cap n f) {m : Nat} (hm : m ≤ n) : RowC W b t cap m f := by
  obtain ⟨c, hb, hn, hl, hc⟩ := h
  exact ⟨c, hb, hn, by omega, fun i hi => hc i (by omega)⟩
/-- Cells laid over the row from place o on. -/
theorem setRow (h : RowC W b t cap n f) {c : Array Value} (hb : W.heap[b]? = some (.cells c t (0, 0))) (o : Nat) (cs : List Value) (ho : o ≤ n) (hfit : o + cs.length ≤ cap) (m : Nat) (hm : m ≤ n ∨ m ≤ o + cs.length) (hmc : m ≤ cap)
    (g : Nat → Value) (hg : ∀ i, i < m → g i = if o ≤ i ∧ i < o + cs.length then cs.getD (i - o) undef else f i) :
    RowC (W.setRow b (c.toList.take o ++ cs ++ c.toList.drop (o + cs.length)).toArray) b t cap m g := by
  obtain ⟨c', hb', hn, hl, hc⟩ := h
  rw [hb'] at hb
  injection hb with hb
  injection hb with hb
  subst hb
  have hsz : c'.toList.length = cap := by simpa using hn
  refine ⟨(c'.toList.take o ++ cs ++ c'.toList.drop (o + cs.length)).toArray, ?_, ?_, hmc, fun i hi => ?_⟩
  · simp [World.setRow, Array.getElem?_modify, hb']
  · simp; omega
  · rw [hg i hi]
    simp only [List.getElem?_toArray]
    have hto : (c'.toList.take o).length = o := by simp; omega
    by_cases h1 : i < o
    · rw [if_neg (by omega), List.append_assoc, List.getElem?_append_left (by omega), List.getElem?_take_of_lt h1]
      simpa using hc i (by omega)
    · by_cases h2 : i < o + cs.length
      · rw [if_pos ⟨by omega, h2⟩, List.append_assoc, List.getElem?_append_right (by omega), hto, List.getElem?_append_left (by omega)]
        simp [List.getD, List.getElem?_eq_getElem (show i - o < cs.length by omega)]
      · rw [if_neg (by omega), List.getElem?_append_right (by simp; omega)]
        have hlen : (c'.toList.take o ++ cs).length = o + cs.length := by simp; omega
        rw [hlen, List.getElem?_drop, show o + cs.length + (i - (o + cs.length)) = i by omega]
        simpa using hc i (by omega)
/-- Behind a copy: cells laid over the row from place o on. -/
theorem setRow' (h : RowC W b t cap n f) {c : Array Value} (hb : W.heap[b]? = some (.cells c t (0, 0))) (o : Nat) (cs : List Value) (ho : o ≤ n) (hfit : o + cs.length ≤ cap) (m : Nat) (hm : m ≤ n ∨ m ≤ o + cs.length) (hmc : m ≤ cap)
    (g : Nat → Value) (hg : ∀ i, i < m → g i = if o ≤ i ∧ i < o + cs.length then cs.getD (i - o) undef else f i) :
    RowC (W.setRow b (c.toList.take o ++ (cs ++ c.toList.drop (o + cs.length))).toArray) b t cap m g := by
  have := setRow h hb o cs ho hfit m hm hmc g hg
  rwa [List.append_assoc] at this
end RowC
/-- Behind make: so many cells, each the element's own zeros over and over. -/
theorem RowC.made (W : World) (c : Array Value) (t : TypeId) (n : Nat) (f : Nat → Value) (hn : n ≤ c.size) (hf : ∀ i, i < n → c[i]? = some (f i)) : RowC (W.alloc (.cells c t)) W.heap.size t c.size n f :=
  ⟨c, heap_alloc_new W _, rfl, hn, hf⟩

theorem RowC.made' (W : World) (c : Array Value) (t : TypeId) {n : Nat} (hc : c.size = n) {f : Nat → Value} : RowC (W.alloc (.cells c t)) W.heap.size t n 0 f :=
  ⟨c, heap_alloc_new W _, hc, Nat.zero_le _, fun i hi => absurd hi (Nat.not_lt_zero _)⟩

/-- Copy between rows whose elements have k cells. -/
theorem run_copy_wide {P : Program} (w : World) (dT sT ty elem : TypeId) (k g o dLen dCap : Nat) (a : Addr) (sLen sCap : Nat) (cur : Array Value) (t : TypeId) (cs : List Value)
    (hu : P.underlying dT = some (.slice elem)) (hs : (P.info? elem).map (·.size) = some k)
    (hg : w.heap[g]? = some (.cells cur t (0, 0))) (hn : cs.length = Nat.min sLen dLen * k)
    (hsrc : ∀ j v, cs[j]? = some v → w.cell? (a.add j) = some v) (hfit : o + cs.length ≤ cur.size) (h1 : ∀ v ∈ cs, v.oneCell' = true) :
    (Builtin.copy_ #[dT, sT] ty #[.slice (some ⟨g, o, none⟩) dLen dCap, .slice (some a) sLen sCap]).run P w =
      .ok (goInt (Nat.min sLen dLen : Nat)) (w.setRow g (cur.toList.take o ++ cs ++ cur.toList.drop (o + cs.length)).toArray) := by
  have hl := run_loadCells_list (P := P) w a cs hsrc
  have hst := run_storeCells_at P g o t cs 0 cur w hg (by simpa using hfit) h1
  cases hq : P.info? elem with
  | none => simp [hq] at hs
  | some i =>
    have hi : i.size = k := by simpa [hq] using hs
    simp [Builtin.copy_, run_underlying hu, Builtin.lenOf, Builtin.firstCells, sizeOf, typeInfo, hq, hi, ← hn, hl, hst]

theorem wp_copy_rowC {P : Program} {w : World} {o : Oper} {a : Act} {K : Act → World → Prop} {Q : Exit → Act → World → Prop} (d s : Operand) (dT sT : TypeId)
    (ho : o.op = .call { callee := .builtin .copy, args := #[d, s], argTypes := #[dT, sT] }) (elem : TypeId) (k : Nat) (hu : P.underlying dT = some (.slice elem)) (hsz : (P.info? elem).map (·.size) = some k)
    (g off dLen dCap : Nat) (ad : Addr) (sLen sCap : Nat) (hd : a.eval d = .slice (some ⟨g, off, none⟩) dLen dCap) (hs : a.eval s = .slice (some ad) sLen sCap)
    (q : Nat) (hq : Nat.min sLen dLen = q) (t : TypeId) (cap n : Nat) (f : Nat → Value) (hr : RowC w g t cap n f) (cs : List Value) (hn : cs.length = q * k)
    (hsrc : ∀ j v, cs[j]? = some v → w.cell? (ad.add j) = some v) (h1 : ∀ v ∈ cs, v.oneCell' = true) (hoff : off ≤ n) (hfit : off + cs.length ≤ cap)
    (m : Nat) (hm : m ≤ n ∨ m ≤ off + cs.length) (hmc : m ≤ cap) (f' : Nat → Value) (hf' : ∀ i, i < m → f' i = if off ≤ i ∧ i < off + cs.length then cs.getD (i - off) undef else f i)
    (h : ∀ w', RowC w' g t cap m f' → (∀ b, b ≠ g → w'.heap[b]? = w.heap[b]?) → Below g w w' → w'.heap.size = w.heap.size → K (a.put o.dst (goInt (q : Nat))) w') : o.wp P a w K Q := by
  obtain ⟨c, hb, hc⟩ := hr
  have hr : RowC w g t cap n f := ⟨c, hb, hc⟩
  have hrun := run_copy_wide (P := P) w dT sT o.type elem k g off dLen dCap ad sLen sCap c t cs hu hsz hb (by rw [hq]; exact hn) hsrc (by rw [hc.1]; exact hfit) h1
  rw [hq] at hrun
  have := h _ (hr.setRow' hb off cs hoff hfit m hm hmc f' hf') (fun b hne => setRow_other w g b _ hne) ⟨rfl, rfl, rfl, by simp [World.setRow], fun b hlt => setRow_other w g b _ (by omega)⟩ (by simp [World.setRow])
  unfold Oper.wp
  simp [execOp, ho, resolve, invoke, builtin, hd, hs, hrun, Result.andThen]
  exact this
/-- Copy into a row that an index function tells: what is told of the row behind it. -/
theorem wpList_copy_rowC {P : Program} {w : World} {ops : Array Oper} {rest : List Oper} {o : Oper} {a : Act} {Q : Exit → Act → World → Prop} (hgd : o.guard = none) (d s : Operand) (dT sT : TypeId)
    (ho : o.op = .call { callee := .builtin .copy, args := #[d, s], argTypes := #[dT, sT] }) (elem : TypeId) (k : Nat) (hu : P.underlying dT = some (.slice elem)) (hsz : (P.info? elem).map (·.size) = some k)
    (g off dLen dCap : Nat) (ad : Addr) (sLen sCap : Nat) (hd : a.eval d = .slice (some ⟨g, off, none⟩) dLen dCap) (hs : a.eval s = .slice (some ad) sLen sCap)
    (q : Nat) (hq : Nat.min sLen dLen = q) (t : TypeId) (cap n : Nat) (f : Nat → Value) (hr : RowC w g t cap n f) (cs : List Value) (hn : cs.length = q * k)
    (hsrc : ∀ j v, cs[j]? = some v → w.cell? (ad.add j) = some v) (h1 : ∀ v ∈ cs, v.oneCell' = true) (hoff : off ≤ n) (hfit : off + cs.length ≤ cap)
    (m : Nat) (hm : m ≤ n ∨ m ≤ off + cs.length) (hmc : m ≤ cap) (f' : Nat → Value) (hf' : ∀ i, i < m → f' i = if off ≤ i ∧ i < off + cs.length then cs.getD (i - off) undef else f i)
    (h : ∀ w', RowC w' g t cap m f' → (∀ b, b ≠ g → w'.heap[b]? = w.heap[b]?) → Below g w w' → w'.heap.size = w.heap.size → wpList P ops Q rest (a.put o.dst (goInt (q : Nat))) w') : wpList P ops Q (o :: rest) a w :=
  wpList_plain hgd fun K hK => wp_copy_rowC d s dT sT ho elem k hu hsz g off dLen dCap ad sLen sCap hd hs q hq t cap n f hr cs hn hsrc h1 hoff hfit m hm hmc f' hf' fun w' x1 x2 x3 x4 => hK _ _ (h w' x1 x2 x3 x4)
/-- A slice cut from lo on. -/
theorem run_cut_from {P : Program} {t e : TypeId} {k : Nat} (hu : P.underlying t = some (.slice e)) (hsz : (P.info? e).map (·.size) = some k) (W : World) (b o len cap lo : Nat) (h1 : lo ≤ len) (h2 : lo < cap) :
    Sem.run P (Instr.slice t (.slice (some ⟨b, o, none⟩) len cap) (some (.int .i64 (lo : Int))) none none) W = .ok (.slice (some ⟨b, o + lo * k, none⟩) (len - lo) (cap - lo)) W := by
  cases hq : P.info? e with
  | none => simp [hq] at hsz
  | some i =>
    have hi : i.size = k := by simpa [hq] using hsz
    have hl : ((lo : Int) ≤ (len : Int)) := by omega
    simp [Instr.slice, run_underlying hu, Instr.sliceBounds, Instr.sliceBound, asIntOf, sizeOf, typeInfo, hq, hi, go_sem, show ¬ cap = lo by omega, hl]
    intro hh
    omega
/-- A slice cut from 0 to hi. -/
theorem run_cut_to {P : Program} {t e : TypeId} {k : Nat} (hu : P.underlying t = some (.slice e)) (hsz : (P.info? e).map (·.size) = some k) (W : World) (b o len cap hi : Nat) (h1 : hi ≤ cap) :
    Sem.run P (Instr.slice t (.slice (some ⟨b, o, none⟩) len cap) none (some (.int .i64 (hi : Int))) none) W = .ok (.slice (some ⟨b, o, none⟩) hi cap) W := by
  cases hq : P.info? e with
  | none => simp [hq] at hsz
  | some i =>
    have hi' : i.size = k := by simpa [hq] using hsz
    have hl : ((hi : Int) ≤ (cap : Int)) := by omega
    simp [Instr.slice, run_underlying hu, Instr.sliceBounds, Instr.sliceBound, asIntOf, sizeOf, typeInfo, hq, hi', go_sem, hl]
    intro hh
    omega
end Go.Proofs.YtbnkfiaggehmgaaGreatDoor
