import Derived.Test.YtliacdaddncmaaaGreatDoorLU
import Derived.Test.YtliacdaddncmaaaGreatDoorSnNames

/- Walks: WriteString of strings.Builder, with what it leaves; a shot's put. -/
namespace Go.Proofs.YtliacdaddncmaaaGreatDoor
open Go.RowKit
set_option linter.unusedSimpArgs false
set_option linter.unusedVariables false
attribute [local go_sem] alloc_drewN setCell_drewN World.cell?_alloc_some frozen_alloc_some size_f0 size_f1

/-- But for block b and for rows of bytes all blocks stay. -/
def FrU (b : Nat) (W W' : World) : Prop := ∀ (k : Nat) (o : Obj), W.heap[k]? = some o → k ≠ b → (∀ c t fr, o = .cells c t fr → t ≠ 5) → W'.heap[k]? = some o
theorem FrU.refl (b : Nat) (W : World) : FrU b W W := fun _ _ h _ _ => h
theorem FrU.trans {b : Nat} {X Y Z : World} (h : FrU b X Y) (h' : FrU b Y Z) : FrU b X Z := fun k o hk hb ho => h' k o (h k o hk hb ho) hb ho
theorem FrU.below {b : Nat} {W W' : World} (h : Below W.heap.size W W') : FrU b W W' := fun k o hk _ _ => (h.block k (block_lt hk)).trans hk
theorem FrU.setCell {b : Nat} {X W : World} (h : FrU b X W) (p : Addr) {v : Value} (hp : p.block = b) : FrU b X (W.setCell p v) := fun k o hk hb ho => by
  have := h k o hk hb ho
  have hne : p.block ≠ k := fun e => hb (e ▸ hp)
  rw [Below.heap_setCell _ _ _ _ hne.symm]
  exact this
theorem FrU.grown {b : Nat} {X w w' : World} {row : Option Nat} (h : FrU b X w) (hg : w.grownBy w' row) (hr : ∀ k, row = some k → ∃ c fr, w.heap[k]? = some (.cells c 5 fr)) : FrU b X w' := fun k o hk hb ho => by
  have h1 := h k o hk hb ho
  refine (hg.block k (block_lt h1) fun e => ?_).trans h1
  obtain ⟨c, fr, h2⟩ := hr k e.symm
  rw [h1] at h2
  injection h2 with h2
  exact ho c 5 fr h2 rfl
theorem ownsRow_u8 {W : World} {base : Nat} {size : Nat} {v : Value} {k : Nat} {xs : List Value} (h : W.ownsRow base 5 size v k xs) {j : Nat} (hj : v.ownBlock = some j) : ∃ c fr, W.heap[j]? = some (.cells c 5 fr) := by
  rcases h.2 with ⟨hv, _⟩ | ⟨g, cap, cur, hv, hB, hg, rest⟩
  · rw [hv] at hj
    cases hj
  · rw [hv] at hj
    injection hj with hj
    subst hj
    exact ⟨_, _, hg⟩
theorem copy_k (B b : Nat) (bs : List Value) (w : World) (h : Lib.IsBuilder 72 5 B b bs w) :
    Calls Tryz.prog 52 #[.pointer (some ⟨b, 0, none⟩)] w fun e w' => e = .returned (.tuple #[]) ∧ (Lib.BuilderAt 72 5 B b (.pointer (some ⟨b, 0, none⟩)) bs w' ∧ Below B w w' ∧ FrU b w w') := by
  rcases h with h | h
  · refine (copy_fresh b w h.cell0 h.shape h.frozen0).mono ?_
    rintro e w' ⟨rfl, rfl⟩
    exact ⟨rfl, h.used _, (Below.refl B w).setCell (p := ⟨b, 0, none⟩) h.1 _, (FrU.refl b w).setCell _ rfl⟩
  · refine (copy_used b w h.cell0).mono ?_
    rintro e w' ⟨rfl, rfl⟩
    exact ⟨rfl, h, Below.refl B _, FrU.refl b _⟩
set_option maxHeartbeats 2000000 in
set_option maxRecDepth 100000 in
theorem write_k (B b : Nat) (bs : List Value) (s : ByteArray) (w : World) (h : Lib.IsBuilder 72 5 B b bs w) (hlen : bs.length + s.size ≤ 1000000) (hBw : B ≤ w.heap.size) :
    Calls Tryz.prog 28 #[.pointer (some ⟨b, 0, none⟩), .string s] w fun e w' => (∃ v, e = .returned v) ∧ (Lib.BuilderAt 72 5 B b (.pointer (some ⟨b, 0, none⟩)) (bs ++ Lib.strCells s) w' ∧ Below B w w' ∧ FrU b w w') := by
  obtain ⟨i0, hi, hz0, hz1, hz2⟩ := info_parts infoU8
  have HC := Lib.hid (copy_k B b bs w h)
  clear h
  go_enter Tryz.func28, Tryz.ntmps28
  go_wp2_with fail
  refine HC.out.mono ?_
  rintro e w1 ⟨rfl, h1, hb1, hf1⟩
  obtain ⟨hB, v, hbk, hown, hne⟩ := h1
  have c0 : w1.cell? ⟨b, 0, none⟩ = some (.pointer (some ⟨b, 0, none⟩)) := by rw [Lib.cell_of_heap hbk]; rfl
  have c1 : w1.cell? ⟨b, 1, none⟩ = some v := by rw [Lib.cell_of_heap hbk]; rfl
  go_wp2_with (at_builtin; refine Lib.wpList_append_own_string _ rfl _ _ 70 9 rfl B 5 i0 Tryz.underlying70 Tryz.underlying9 hi hz0 hz1 hz2 _ _ _ rfl hown s rfl ?c3 ?c4 ?c5 ?_)
  case c3 => unfold maxLen; omega
  case c4 => omega
  case c5 => have := hb1.size; omega
  intro v' w2 hown' hgrow _
  have hlt : b < w1.heap.size := by
    rcases Nat.lt_or_ge b w1.heap.size with h' | h'
    · exact h'
    · simp [Array.getElem?_eq_none h'] at hbk
  have hb2 : w2.heap[b]? = some (.cells #[.pointer (some ⟨b, 0, none⟩), v] 72 (0, 0)) := by
    rw [hgrow.block b hlt (fun e => hne e.symm)]
    exact hbk
  have d0 : w2.cell? ⟨b, 0, none⟩ = some (.pointer (some ⟨b, 0, none⟩)) := by rw [Lib.cell_of_heap hb2]; rfl
  have d1 : w2.cell? ⟨b, 1, none⟩ = some v := by rw [Lib.cell_of_heap hb2]; rfl
  have f1 : w2.frozen? ⟨b, 1, none⟩ = false := Lib.frozen_of_heap hb2 1
  obtain ⟨ao, n', cap, rfl⟩ : ∃ ao n' cap, v' = .slice ao n' cap := by
    rcases hown'.2 with ⟨hv, _⟩ | ⟨g, cap, cur, hv, _⟩
    · exact ⟨_, _, _, hv⟩
    · exact ⟨_, _, _, hv⟩
  go_wp2
  go_ret2
  refine ⟨⟨_, rfl⟩, ?_, ?_, ?_⟩
  · exact Lib.BuilderAt.put (T := 72) (e := 5) hB hb2 (bs' := bs ++ Lib.strCells s) (by simpa [Lib.strCells_length] using hown') (by decide)
  · exact (hb1.grown hgrow (by have := hb1.size; omega) (fun k hk => (hown.lt k hk).1)).setCell (p := ⟨b, 1, none⟩) hB _
  · exact (hf1.grown hgrow fun k hk => ownsRow_u8 hown hk).setCell _ rfl
theorem write_lk {B b : Nat} {l m : List UInt8} {w : World} (h : BuildL B b l w) (hlen : l.length + m.length ≤ 1000000) (hBw : B ≤ w.heap.size) :
    Calls Tryz.prog 28 #[.pointer (some ⟨b, 0, none⟩), .string ⟨m.toArray⟩] w fun e w' => (∃ v, e = .returned v) ∧ BuildL B b (l ++ m) w' ∧ Below B w w' ∧ FrU b w w' :=
  (write_k B b _ ⟨m.toArray⟩ w h (by rw [Lib.byteCells_length]; simpa [ByteArray.size] using hlen) hBw).mono fun e w' h' => ⟨h'.1, .inr (by rw [Lib.byteCells_append, ← strCells_list m]; exact h'.2.1), h'.2.2⟩
/-- What is put: numbers and words. -/
inductive PutX where
  | num (n : Nat)
  | str (l : List UInt8)
def PutX.val : PutX → Value
  | .num n => .iface 3 (.int .i64 (n : Int))
  | .str l => .iface 9 (.string ⟨l.toArray⟩)
def PutX.txt : PutX → List UInt8
  | .num n => decB n
  | .str l => l
def PutX.ok : PutX → Prop
  | .num n => n < 100
  | .str _ => True
def putB (l : List PutX) : List UInt8 := l.flatMap PutX.txt
theorem ta_num (m : Int) (w : World) : Sem.run Tryz.prog (Instr.typeAssert (.iface 3 (.int .i64 m)) 20 3 true) w = .ok (.tuple #[.int .i64 m, .bool true]) w := by kernel_rfl
theorem ta_no (m : ByteArray) (w : World) : Sem.run Tryz.prog (Instr.typeAssert (.iface 9 (.string m)) 20 3 true) w = .ok (.tuple #[.int .i64 0, .bool false]) w := by kernel_rfl
theorem ta_str (m : ByteArray) (w : World) : Sem.run Tryz.prog (Instr.typeAssert (.iface 9 (.string m)) 20 9 true) w = .ok (.tuple #[.string m, .bool true]) w := by kernel_rfl
attribute [local go_sem] ta_num ta_no ta_str
set_option maxRecDepth 100000 in
set_option maxHeartbeats 4000000 in
theorem put_ok {B b g n cap : Nat} {l : List UInt8} {xs : List PutX} {w : World} (h : BuildL B b l w) (hBw : B ≤ w.heap.size) (hg : w.heap[g]? = some (.cells (xs.map PutX.val).toArray 20 (0, 0))) (hn : xs.length = n) (hn9 : n ≤ 100) (hgb : g ≠ b) (hx : ∀ x ∈ xs, x.ok) (hlen : l.length + (putB xs).length ≤ 1000000) :
    Calls Tryz.prog 38 #[.slice (some ⟨g, 0, none⟩) n cap, .pointer (some ⟨b, 0, none⟩)] w fun e w' => e = .returned (.tuple #[]) ∧ BuildL B b (l ++ putB xs) w' ∧ Below B w w' ∧ FrU b w w' := by
  subst hn
  have HG := Lib.hid hg
  have HL := Lib.hid hlen
  have HX := Lib.hid hx
  have H := Lib.hid h
  clear h hg hlen hx
  go_enter Tryz.func38, Tryz.ntmps38
  go_wp2_with fail
  go_loopw [9] (fun i wr => ∃ k : Nat, k ≤ xs.length ∧ i = .int .i64 (k : Int) ∧ BuildL B b (l ++ putB (xs.take k)) wr ∧ Below B w wr ∧ FrU b w wr) (fun i _ => xs.length - (intOf i).toNat)
  case atStart => exact ⟨0, Nat.zero_le _, rfl, by rw [List.take_zero]; simpa [putB] using H.out, Below.refl _ _, FrU.refl _ _⟩
  case round =>
    obtain ⟨k, hk, rfl, hb, hbl, hf⟩ := hrel
    have HBL := Lib.hid hbl
    have HF := Lib.hid hf
    have HB := Lib.hid hb
    have hbw : Hid (B ≤ wr.heap.size) := Nat.le_trans hBw hbl.size
    have hgr : wr.heap[g]? = some (.cells (xs.map PutX.val).toArray 20 (0, 0)) := hf g _ HG.out hgb (fun c t fr e => by injection e with e1 e2 e3; rw [← e2]; decide)
    clear hb hbl hf
    by_cases hlt : k < xs.length
    · have hkz : (k : Int) < (xs.length : Int) := by omega
      have hwk : IntKind.i64.wrap ((k : Int) + 1) = ((k + 1 : Nat) : Int) := by rw [wrap_in (by omega) (by omega)]; rfl
      obtain ⟨x, hx⟩ : ∃ x, xs[k] = x := ⟨_, rfl⟩
      have gk : wr.cell? ⟨g, k, none⟩ = some x.val := by
        rw [Lib.cell_of_heap hgr]
        simp [hlt, hx]
      have hxo := HX.out x (hx ▸ List.getElem_mem hlt)
      have hpt : putB (xs.take (k + 1)) = putB (xs.take k) ++ x.txt := by
        unfold putB
        rw [List.take_add_one, List.getElem?_eq_getElem hlt, hx, List.flatMap_append]
        simp
      have hle : (l ++ putB (xs.take k)).length + x.txt.length ≤ 1000000 := by
        have h1 : putB xs = putB (xs.take (k + 1)) ++ putB (xs.drop (k + 1)) := by
          unfold putB
          rw [← List.flatMap_append, List.take_append_drop]
        have h2 := HL.out
        rw [h1, hpt, List.length_append, List.length_append] at h2
        rw [List.length_append]
        omega
      have HPT := Lib.hid hpt
      have HLE := Lib.hid hle
      clear hpt hle hgr hx
      cases x with
      | num m =>
        have hm : m < 100 := hxo
        unfold PutX.val at gk
        go_wp2_with (first
          | (go_at_call 39; refine (Tryz.strconv_Itoa_small m hm _).mono ?_; rintro e w2 ⟨rfl, rfl⟩)
          | (go_at_call 28; refine (write_lk (m := decB m) HB.out HLE.out hbw.out).mono ?_; rintro e w3 ⟨⟨v, rfl⟩, h1, h2, h3⟩; have H1 := Lib.hid h1; have H2 := Lib.hid h2; have H3 := Lib.hid h3; clear h1 h2 h3))
        exact ⟨⟨k + 1, by omega, rfl, by rw [HPT.out, ← List.append_assoc]; exact H1.out, HBL.out.trans H2.out, HF.out.trans H3.out⟩, by simp [intOf]; omega⟩
      | str m =>
        unfold PutX.val at gk
        go_wp2_with (go_at_call 28; refine (write_lk (m := m) HB.out HLE.out hbw.out).mono ?_; rintro e w3 ⟨⟨v, rfl⟩, h1, h2, h3⟩; have H1 := Lib.hid h1; have H2 := Lib.hid h2; have H3 := Lib.hid h3; clear h1 h2 h3)
        exact ⟨⟨k + 1, by omega, rfl, by rw [HPT.out, ← List.append_assoc]; exact H1.out, HBL.out.trans H2.out, HF.out.trans H3.out⟩, by simp [intOf]; omega⟩
    · obtain rfl : k = xs.length := by omega
      go_wp2_with fail
      go_end0
      refine ⟨rfl, ?_, HBL.out, HF.out⟩
      have := HB.out
      rwa [List.take_length] at this
end Go.Proofs.YtliacdaddncmaaaGreatDoor
