import Derived.Test.YtliacdaddncmaaaGreatDoorProg
import Derived.WalkKit
import Derived.Below
import Derived.Lib.Hide
import Derived.Lib.Builder
import Derived.Lib.AppendStr
import Derived.Maps.AppendAt
import Derived.WalkSpells
import Derived.Lib.RuneBytes
import Derived.Test.YtliacdaddncmaaaGreatDoorShelfS
import Derived.Test.YtliacdaddncmaaaGreatDoorLF
import Derived.Test.YtliacdaddncmaaaGreatDoorLT
import Derived.Lib.ItoaNum

/- Walks: copyCheck, WriteString and WriteRune of strings.Builder (the shelf's contracts fall at this seat: its loader refuses a road in copyCheck that no run here comes to). -/
namespace Go.Proofs.YtliacdaddncmaaaGreatDoor
open Go.RowKit
set_option linter.unusedSimpArgs false
set_option linter.unusedVariables false

theorem infoBuilder : (Tryz.prog.info? 72).map (·.size) = some 2 := by kernel_rfl
theorem liesBuilder : liesAt Tryz.prog Tryz.prog.depth 72 (2 / Tryz.prog.cellsOf 72) 0 72 1 = true := by kernel_rfl
theorem infoU8 : (Tryz.prog.info? 5).map (fun i => (i.zero, i.size, i.bytes)) = some (some (.int .u8 0), 1, 1) := by kernel_rfl

set_option maxRecDepth 100000 in
theorem copy_fresh (b : Nat) (w : World) (h0 : w.cell? ⟨b, 0, none⟩ = some (.pointer none)) (hsh : w.shape? b = some (72, 2)) (hfz : w.frozen? ⟨b, 0, none⟩ = false) :
    Calls Tryz.prog 52 #[.pointer (some ⟨b, 0, none⟩)] w fun e w' => e = .returned (.tuple #[]) ∧ w' = w.setCell ⟨b, 0, none⟩ (.pointer (some ⟨b, 0, none⟩)) := by
  obtain ⟨j, hj, hjs⟩ := Option.map_eq_some_iff.1 infoBuilder
  go_enter Tryz.func52, Tryz.ntmps52
  go_wp2
  rw [Lib.run_to_unsafe w ⟨b, 0, none⟩ Tryz.underlying69 Tryz.underlying143 hj (by rw [hjs]; decide) hsh (Nat.zero_lt_succ 1)]
  simp only [Result.andThen]
  rw [Oper.upon_value]
  go_wp2
  rw [run_callFunc_extern Tryz.func80 (by kernel_rfl) (by kernel_rfl) (by kernel_rfl) (e := Extern.AbiNoEscape.same) (by kernel_rfl)]
  rw [Lib.run_noEscape]
  simp only [Result.andThen]
  rw [Oper.upon_value]
  go_wp2
  rw [Lib.run_from_unsafe w ⟨b, 0, none⟩ Tryz.underlying143 Tryz.underlying69 hj hsh liesBuilder]
  simp only [Result.andThen]
  rw [Oper.upon_value]
  go_wp2
  go_end0
  exact ⟨rfl, rfl⟩

set_option maxRecDepth 100000 in
theorem copy_used (b : Nat) (w : World) (h0 : w.cell? ⟨b, 0, none⟩ = some (.pointer (some ⟨b, 0, none⟩))) :
    Calls Tryz.prog 52 #[.pointer (some ⟨b, 0, none⟩)] w fun e w' => e = .returned (.tuple #[]) ∧ w' = w := by
  obtain ⟨j, hj, _⟩ := Option.map_eq_some_iff.1 infoBuilder
  go_enter Tryz.func52, Tryz.ntmps52
  go_wp2
  rw [Lib.run_neq_ptr_same w _ Tryz.underlying69 hj]
  go_wp2
  go_end0
  exact ⟨rfl, rfl⟩

theorem copy_any (B b : Nat) (bs : List Value) (w : World) (h : Lib.IsBuilder 72 5 B b bs w) :
    Calls Tryz.prog 52 #[.pointer (some ⟨b, 0, none⟩)] w fun e w' => e = .returned (.tuple #[]) ∧ (Lib.BuilderAt 72 5 B b (.pointer (some ⟨b, 0, none⟩)) bs w' ∧ Below B w w') := by
  rcases h with h | h
  · refine (copy_fresh b w h.cell0 h.shape h.frozen0).mono ?_
    rintro e w' ⟨rfl, rfl⟩
    exact ⟨rfl, h.used _, (Below.refl B w).setCell (p := ⟨b, 0, none⟩) h.1 _⟩
  · refine (copy_used b w h.cell0).mono ?_
    rintro e w' ⟨rfl, rfl⟩
    exact ⟨rfl, h, Below.refl B _⟩

set_option maxHeartbeats 2000000 in
set_option maxRecDepth 100000 in
theorem write_any (B b : Nat) (bs : List Value) (s : ByteArray) (w : World) (h : Lib.IsBuilder 72 5 B b bs w) (hlen : bs.length + s.size ≤ 1000000) (hBw : B ≤ w.heap.size) :
    Calls Tryz.prog 28 #[.pointer (some ⟨b, 0, none⟩), .string s] w fun e w' => (∃ v, e = .returned v) ∧ (Lib.BuilderAt 72 5 B b (.pointer (some ⟨b, 0, none⟩)) (bs ++ Lib.strCells s) w' ∧ Below B w w') := by
  obtain ⟨i0, hi, hz0, hz1, hz2⟩ := info_parts infoU8
  have HC := Lib.hid (copy_any B b bs w h)
  clear h
  go_enter Tryz.func28, Tryz.ntmps28
  go_wp2_with fail
  refine HC.out.mono ?_
  rintro e w1 ⟨rfl, h1, hb1⟩
  obtain ⟨hB, v, hbk, hown, hne⟩ := h1
  have c0 : w1.cell? ⟨b, 0, none⟩ = some (.pointer (some ⟨b, 0, none⟩)) := by rw [Lib.cell_of_heap hbk]; rfl
  have c1 : w1.cell? ⟨b, 1, none⟩ = some v := by rw [Lib.cell_of_heap hbk]; rfl
  go_wp2_with (at_builtin; refine Lib.wpList_append_own_string _ rfl _ _ 70 9 rfl B 5 i0 Tryz.underlying70 Tryz.underlying9 hi hz0 hz1 hz2 _ _ _ rfl hown s rfl ?c3 ?c4 ?c5 ?_)
  case c3 => unfold maxLen; omega
  case c4 => omega
  case c5 => have := hb1.size; omega
  intro v' w2 hown' hgrow _
  have hlt : b < w1.heap.size := by
    rcases Nat.lt_or_ge b w1.heap.size with h' | h'
    · exact h'
    · simp [Array.getElem?_eq_none h'] at hbk
  have hb2 : w2.heap[b]? = some (.cells #[.pointer (some ⟨b, 0, none⟩), v] 72 (0, 0)) := by
    rw [hgrow.block b hlt (fun e => hne e.symm)]
    exact hbk
  have d0 : w2.cell? ⟨b, 0, none⟩ = some (.pointer (some ⟨b, 0, none⟩)) := by rw [Lib.cell_of_heap hb2]; rfl
  have d1 : w2.cell? ⟨b, 1, none⟩ = some v := by rw [Lib.cell_of_heap hb2]; rfl
  have f1 : w2.frozen? ⟨b, 1, none⟩ = false := Lib.frozen_of_heap hb2 1
  obtain ⟨ao, n', cap, rfl⟩ : ∃ ao n' cap, v' = .slice ao n' cap := by
    rcases hown'.2 with ⟨hv, _⟩ | ⟨g, cap, cur, hv, _⟩
    · exact ⟨_, _, _, hv⟩
    · exact ⟨_, _, _, hv⟩
  go_wp2
  go_ret2
  refine ⟨⟨_, rfl⟩, ?_, ?_⟩
  · exact Lib.BuilderAt.put (T := 72) (e := 5) hB hb2 (bs' := bs ++ Lib.strCells s) (by simpa [Lib.strCells_length] using hown') (by decide)
  · exact (hb1.grown hgrow (by have := hb1.size; omega) (fun k hk => (hown.lt k hk).1)).setCell (p := ⟨b, 1, none⟩) hB _
theorem runeCells_len (r : Int) : (Lib.runeCells r).length ≤ 4 := (Lib.runeCells_le r).2
set_option maxHeartbeats 4000000 in
set_option maxRecDepth 100000 in
theorem rune_any (B b : Nat) (bs : List Value) (r : Int) (hr0 : -2147483648 ≤ r) (hr1 : r ≤ 2147483647) (w : World) (h : Lib.IsBuilder 72 5 B b bs w) (hlen : bs.length + 4 ≤ 1000000) (hBw : B ≤ w.heap.size) :
    Calls Tryz.prog 51 #[.pointer (some ⟨b, 0, none⟩), .int .i32 r] w fun e w' => (∃ v, e = .returned v) ∧ (Lib.BuilderAt 72 5 B b (.pointer (some ⟨b, 0, none⟩)) (bs ++ Lib.runeCells r) w' ∧ Below B w w') := by
  have HC := Lib.hid (copy_any B b bs w h)
  have HR := Lib.hid (fun (v : Value) (W : World) (hown : W.ownsRow B 5 1 v bs.length bs) (hB : B ≤ W.heap.size) => Tryz.utf8_AppendRune_plain B v bs.length bs r hr0 hr1 W hown (by omega) hB)
  have hl4 := runeCells_len r
  clear h hr0 hr1
  go_enter Tryz.func51, Tryz.ntmps51
  go_wp2_with fail
  refine HC.out.mono ?_
  rintro e w1 ⟨rfl, h1, hb1⟩
  obtain ⟨hB, v, hbk, hown, hne⟩ := h1
  have c0 : w1.cell? ⟨b, 0, none⟩ = some (.pointer (some ⟨b, 0, none⟩)) := by rw [Lib.cell_of_heap hbk]; rfl
  have c1 : w1.cell? ⟨b, 1, none⟩ = some v := by rw [Lib.cell_of_heap hbk]; rfl
  have hlt : b < w1.heap.size := by
    rcases Nat.lt_or_ge b w1.heap.size with h' | h'
    · exact h'
    · simp [Array.getElem?_eq_none h'] at hbk
  have HR1 := Lib.hid (HR.out v w1 hown (by have := hb1.size; omega))
  have hbase : ∀ k, v.ownBlock = some k → B ≤ k := fun k hk => (hown.lt k hk).1
  obtain ⟨va, vc, rfl⟩ : ∃ va vc, v = .slice va bs.length vc := by
    rcases hown.2 with ⟨hv, hz⟩ | ⟨g, cap, cur, hv, _⟩
    · exact ⟨none, 0, by rw [hv, hz]⟩
    · exact ⟨_, _, hv⟩
  clear hown
  go_wp2_with (go_at_call 79; refine HR1.out.mono ?_; rintro e w2 ⟨v', rfl, hown', o, hgrow⟩; obtain ⟨ao, n', cap, rfl⟩ : ∃ ao n' cap, v' = .slice ao n' cap := (by rcases hown'.2 with ⟨hv, _⟩ | ⟨g, cap, cur, hv, _⟩ <;> exact ⟨_, _, _, hv⟩); have hb2 : w2.heap[b]? = some (.cells #[.pointer (some ⟨b, 0, none⟩), .slice va bs.length vc] 72 (0, 0)) := (hgrow.block b (by rw [World.size_alloc]; omega) (fun e => hne e.symm)).trans ((Lib.alloc_old w1 o b hlt).trans hbk); have d0 : w2.cell? ⟨b, 0, none⟩ = some (.pointer (some ⟨b, 0, none⟩)) := (by rw [Lib.cell_of_heap hb2]; rfl); have d1 : w2.cell? ⟨b, 1, none⟩ = some (.slice va bs.length vc) := (by rw [Lib.cell_of_heap hb2]; rfl); have f1 : w2.frozen? ⟨b, 1, none⟩ = false := Lib.frozen_of_heap hb2 1; have HO := Lib.hid hown'; have HG := Lib.hid hgrow; clear hown' hgrow c0 c1)
  go_ret2
  refine ⟨⟨_, rfl⟩, ?_, ?_⟩
  · exact Lib.BuilderAt.put (T := 72) (e := 5) hB hb2 (bs' := bs ++ Lib.runeCells r) (by simpa using HO.out) (by decide)
  · exact (((hb1.alloc (by have := hb1.size; omega) o).grown HG.out (by rw [World.size_alloc]; have := hb1.size; omega) hbase)).setCell (p := ⟨b, 1, none⟩) hB _
/-! ### Texts that grow -/
/-- Block b is a builder whose bytes are l. -/
def BuildL (B b : Nat) (l : List UInt8) (w : World) : Prop := Lib.IsBuilder 72 5 B b (Lib.byteCells l) w
theorem BuildL.fresh (w : World) : BuildL w.heap.size w.heap.size [] (w.alloc (.cells #[.pointer none, .slice none 0 0] 72)) := Lib.fresh_isBuilder _ _ w
theorem ownsRow_low {W W' : World} {base : Nat} {e : TypeId} {size : Nat} {v : Value} {k : Nat} {xs : List Value} (h : W.ownsRow base e size v k xs) (hb : Below W.heap.size W W') : W'.ownsRow base e size v k xs := by
  refine ⟨h.1, ?_⟩
  rcases h.2 with h' | ⟨g, cap, cur, hv, hB, hg, rest⟩
  · exact .inl h'
  · exact .inr ⟨g, cap, cur, hv, hB, (hb.block g (Array.getElem?_eq_some_iff.1 hg).1).trans hg, rest⟩
theorem BuildL.below {B b : Nat} {l : List UInt8} {w w' : World} (h : BuildL B b l w) (hb : Below w.heap.size w w') : BuildL B b l w' := by
  have key : ∀ p, Lib.BuilderAt 72 5 B b p (Lib.byteCells l) w → Lib.BuilderAt 72 5 B b p (Lib.byteCells l) w' := fun p h => by
    obtain ⟨hB, v, h1, h2, h3⟩ := h
    exact ⟨hB, v, (hb.block b (Array.getElem?_eq_some_iff.1 h1).1).trans h1, ownsRow_low h2 hb, h3⟩
  exact h.imp (key _) (key _)
theorem BuildL.lt {B b : Nat} {l : List UInt8} {w : World} (h : BuildL B b l w) : b < w.heap.size := by
  rcases h with h | h <;> exact h.lt
theorem BuildL.ge {B b : Nat} {l : List UInt8} {w : World} (h : BuildL B b l w) : B ≤ b := by
  rcases h with h | h <;> exact h.1
theorem strCells_list (l : List UInt8) : Lib.strCells ⟨l.toArray⟩ = Lib.byteCells l := by
  simp [Lib.strCells, Lib.byteCells]
theorem write_l {B b : Nat} {l m : List UInt8} {w : World} (h : BuildL B b l w) (hlen : l.length + m.length ≤ 1000000) (hBw : B ≤ w.heap.size) :
    Calls Tryz.prog 28 #[.pointer (some ⟨b, 0, none⟩), .string ⟨m.toArray⟩] w fun e w' => (∃ v, e = .returned v) ∧ BuildL B b (l ++ m) w' ∧ Below B w w' :=
  (write_any B b _ ⟨m.toArray⟩ w h (by rw [Lib.byteCells_length]; simpa [ByteArray.size] using hlen) hBw).mono fun e w' h' => ⟨h'.1, .inr (by rw [Lib.byteCells_append, ← strCells_list m]; exact h'.2.1), h'.2.2⟩
theorem rune_l {B b : Nat} {l : List UInt8} {r : Int} {w : World} (h : BuildL B b l w) (hr0 : 0 ≤ r) (hr1 : r ≤ 2147483647) (hlen : l.length + 4 ≤ 1000000) (hBw : B ≤ w.heap.size) :
    Calls Tryz.prog 51 #[.pointer (some ⟨b, 0, none⟩), .int .i32 r] w fun e w' => (∃ v, e = .returned v) ∧ BuildL B b (l ++ Lib.encodeRune r.toNat) w' ∧ Below B w w' :=
  (rune_any B b _ r (by omega) hr1 w h (by rw [Lib.byteCells_length]; exact hlen) hBw).mono fun e w' h' => ⟨h'.1, .inr (by
    rw [Lib.byteCells_append, Lib.byteCells_encodeRune, show ((r.toNat : Nat) : Int) = r by omega]
    exact h'.2.1), h'.2.2⟩
theorem string_l {B b : Nat} {l : List UInt8} {w : World} (h : BuildL B b l w) (hBw : B ≤ w.heap.size) :
    Calls Tryz.prog 29 #[.pointer (some ⟨b, 0, none⟩)] w fun e w' => e = .returned (.string ⟨l.toArray⟩) ∧ Below B w w' := Tryz.Builder_String_any B b l w h hBw
end Go.Proofs.YtliacdaddncmaaaGreatDoor

/- Plain: what is to be seen of a screen: how cells look, runs, texts. -/
namespace Go.Proofs.YtliacdaddncmaaaGreatDoor
open Go.RowKit
set_option linter.unusedSimpArgs false
set_option linter.unusedVariables false

/-- The bits that a personality has. -/
def maskN (p : Int) : Nat := if p = 2 then 16253 else if p = 3 then 62 else if p = 4 then 60 else 0
def keepA (p a : Int) : Int := if Vz.mayI a = true then ((a.toNat &&& maskN p : Nat) : Int) else 0
/-- The mark behind k cells of a row (m: ahead of it). -/
def markC (x : Nat → Vz.Cl) (m : Int) : Nat → Int
  | 0 => m
  | k + 1 => if 0 < (x k).m then ((x k).m - 1).tmod 64 else markC x m k
def markR (D : Vz.Gd) : Nat → Int
  | 0 => 0
  | i + 1 => markC (D.X i) (markR D i) D.C
def lookW (D : Vz.Gd) (i j : Nat) : Int := bits .or .i64 (D.X i j).a (markC (D.X i) (markR D i) (j + 1))
/-- How a cell looks. -/
def lookS (p : Int) (D : Vz.Gd) (i j : Nat) : Int := keepA p (if p = 3 then lookW D i j else (D.X i j).a)
/-- Where a run ends of which n cells are left to look at. -/
def toR (f : Nat → Bool) (to_ : Nat) : Nat → Nat
  | 0 => to_
  | n + 1 => if f to_ = true then toR f (to_ + 1) n else to_
def sameR (L : Nat → Int) (g : Nat → Bool) (fr k : Nat) : Bool := decide (L k = L fr) && decide (g k = g fr)
/-- The glyphs of n cells. -/
def glyL (x : Nat → Vz.Cl) (o : Nat) : Nat → List UInt8
  | 0 => []
  | n + 1 => glyL x o n ++ Lib.encodeRune (x (o + n)).g.toNat
structure Rn where
  row : Nat
  col : Nat
  len : Nat
  look : Int
  gd : Bool
  text : List UInt8
/-- The runs of a row from a column on (fuel n). -/
def runsC (x : Nat → Vz.Cl) (L : Nat → Int) (i C fr : Nat) : Nat → List Rn
  | 0 => []
  | n + 1 => if fr < C then ⟨i, fr, toR (sameR L (fun k => (x k).gd) fr) (fr + 1) (C - (fr + 1)) - fr, L fr, (x fr).gd, glyL x fr (toR (sameR L (fun k => (x k).gd) fr) (fr + 1) (C - (fr + 1)) - fr)⟩ :: runsC x L i C (toR (sameR L (fun k => (x k).gd) fr) (fr + 1) (C - (fr + 1))) n else []
def rowN (D : Vz.Gd) (L : Nat → Nat → Int) (i : Nat) : List Rn := runsC (D.X i) (L i) i D.C 0 D.C
/-- The runs of the rows from one on, n of them. -/
def runsD (D : Vz.Gd) (L : Nat → Nat → Int) (i : Nat) : Nat → List Rn
  | 0 => []
  | n + 1 => rowN D L i ++ runsD D L (i + 1) n
def allN (D : Vz.Gd) (L : Nat → Nat → Int) : List Rn := runsD D L 0 D.R
theorem toR_ge (f : Nat → Bool) : ∀ (n t : Nat), t ≤ toR f t n ∧ toR f t n ≤ t + n
  | 0, t => ⟨Nat.le_refl _, Nat.le_refl _⟩
  | n + 1, t => by
    unfold toR
    split
    · have := toR_ge f n (t + 1)
      omega
    · omega
theorem toR_same (f : Nat → Bool) : ∀ (n t k : Nat), t ≤ k → k < toR f t n → f k = true
  | 0, t, k, h1, h2 => by
    have : toR f t 0 = t := rfl
    omega
  | n + 1, t, k, h1, h2 => by
    unfold toR at h2
    split at h2
    · rename_i hf
      rcases Nat.lt_or_ge t k with h | h
      · exact toR_same f n (t + 1) k h h2
      · obtain rfl : t = k := by omega
        exact hf
    · omega
theorem toR_end (f : Nat → Bool) : ∀ (n t : Nat), toR f t n < t + n → f (toR f t n) = false
  | 0, t, h => by
    have : toR f t 0 = t := rfl
    omega
  | n + 1, t, h => by
    unfold toR at h ⊢
    split
    · rename_i hf
      rw [if_pos hf] at h
      exact toR_end f n (t + 1) (by omega)
    · rename_i hf
      cases hh : f t
      · rfl
      · exact absurd hh hf
theorem glyL_append (x : Nat → Vz.Cl) (o a : Nat) : ∀ b, glyL x o (a + b) = glyL x o a ++ glyL x (o + a) b
  | 0 => by simp [glyL]
  | b + 1 => by
    show glyL x o (a + b) ++ Lib.encodeRune (x (o + (a + b))).g.toNat = glyL x o a ++ (glyL x (o + a) b ++ Lib.encodeRune (x (o + a + b)).g.toNat)
    rw [glyL_append x o a b, List.append_assoc, Nat.add_assoc]
/-! ### Texts -/
def nameB (p : Int) : List UInt8 := if p = 1 then [118, 116, 53, 50] else if p = 2 then [97, 110, 115, 105] else if p = 3 then [119, 121, 115, 101] else if p = 4 then [97, 100, 109] else []
def decB (n : Nat) : List UInt8 := Lib.decDigits n
/-- A shot. -/
structure Sh where
  p : Int
  S : Vz.Sr
def Sh.look (x : Sh) : Nat → Nat → Int := lookS x.p x.S.D
def rowsB (D : Vz.Gd) : Nat → List UInt8
  | 0 => []
  | i + 1 => rowsB D i ++ glyL (D.X i) 0 D.C ++ [10]
def barsB (D : Vz.Gd) : Nat → List UInt8
  | 0 => []
  | i + 1 => barsB D i ++ [124] ++ glyL (D.X i) 0 D.C ++ [124, 10]
def stopsB (l : List Int) : List UInt8 := l.flatMap fun c => 32 :: decB c.toNat
def runB (r : Rn) : List UInt8 :=
  if r.look = 0 ∧ r.gd = false then [] else decB r.row ++ [44] ++ decB r.col ++ [43] ++ decB r.len ++ [32] ++ Vz.namesL r.look.toNat ++ (if r.gd = true then [32, 103, 117, 97, 114, 100] else []) ++ [10]
def headB (x : Sh) : List UInt8 := nameB x.p ++ [32] ++ decB x.S.D.R ++ [120] ++ decB x.S.D.C ++ [32] ++ decB x.S.pl.at_.row.toNat ++ [44] ++ decB x.S.pl.at_.col.toNat ++ (if x.S.pl.pend = true then [43] else []) ++ [10]
end Go.Proofs.YtliacdaddncmaaaGreatDoor

/- Plain: the runs of all rows are all cells, each once; their texts are the glyphs. -/
namespace Go.Proofs.YtliacdaddncmaaaGreatDoor
open Go.RowKit
set_option linter.unusedSimpArgs false
set_option linter.unusedVariables false

/-- Where one stands behind runs. -/
structure StN where
  row : Nat
  col : Nat
  look : Int
  gd : Bool
def StN.nil : StN := ⟨0, 0, 0, false⟩
def Rn.st (r : Rn) : StN := ⟨r.row, r.col + r.len, r.look, r.gd⟩
def stN (s : StN) : List Rn → StN
  | [] => s
  | r :: l => stN r.st l
theorem stN_append (s : StN) (l m : List Rn) : stN s (l ++ m) = stN (stN s l) m := by
  induction l generalizing s with
  | nil => rfl
  | cons r l ih => exact ih _
/-- Run r stands well behind s. -/
def okR (C : Nat) (s : StN) (r : Rn) : Prop := 1 ≤ r.len ∧ (if s.col = C then r.row = s.row + 1 ∧ r.col = 0 else r.row = s.row ∧ r.col = s.col ∧ (0 < s.col → ¬ (r.look = s.look ∧ r.gd = s.gd)))
def okN (C : Nat) (s : StN) : List Rn → Prop
  | [] => True
  | r :: l => okR C s r ∧ okN C r.st l
theorem okN_append (C : Nat) (s : StN) (l m : List Rn) : okN C s (l ++ m) ↔ okN C s l ∧ okN C (stN s l) m := by
  induction l generalizing s with
  | nil => simp [okN, stN]
  | cons r l ih =>
    show okR C s r ∧ okN C r.st (l ++ m) ↔ (okR C s r ∧ okN C r.st l) ∧ okN C (stN r.st l) m
    rw [ih]
    exact and_assoc.symm
theorem okN_at {C : Nat} {s : StN} {l pre : List Rn} {x : Rn} (h : okN C s l) (hp : pre ++ [x] <+: l) : okR C (stN s pre) x := by
  obtain ⟨r, rfl⟩ := hp
  rw [okN_append, okN_append] at h
  exact h.1.2.1
theorem runsC_ok (x : Nat → Vz.Cl) (L : Nat → Int) (i C : Nat) : ∀ (n fr : Nat) (s : StN), C - fr ≤ n → fr ≤ C → s.row = i → s.col = fr → (0 < fr → fr < C → ¬ (L fr = s.look ∧ (x fr).gd = s.gd)) →
    okN C s (runsC x L i C fr n) ∧ (fr < C → (stN s (runsC x L i C fr n)).row = i ∧ (stN s (runsC x L i C fr n)).col = C)
  | 0, fr, s, h1, h2, h3, h4, h5 => ⟨trivial, fun h => by omega⟩
  | n + 1, fr, s, h1, h2, h3, h4, h5 => by
    unfold runsC
    by_cases hlt : fr < C
    · rw [if_pos hlt]
      have hto := toR_ge (sameR L (fun k => (x k).gd) fr) (C - (fr + 1)) (fr + 1)
      have hend := toR_end (sameR L (fun k => (x k).gd) fr) (C - (fr + 1)) (fr + 1)
      generalize toR (sameR L (fun k => (x k).gd) fr) (fr + 1) (C - (fr + 1)) = to_ at *
      have hst : (⟨i, fr, to_ - fr, L fr, (x fr).gd, glyL x fr (to_ - fr)⟩ : Rn).st = ⟨i, to_, L fr, (x fr).gd⟩ := by
        show (⟨i, fr + (to_ - fr), L fr, (x fr).gd⟩ : StN) = _
        rw [show fr + (to_ - fr) = to_ by omega]
      have ih := runsC_ok x L i C n to_ ⟨i, to_, L fr, (x fr).gd⟩ (by omega) (by omega) rfl rfl (fun _ hl => by
        have hf := hend (by omega)
        unfold sameR at hf
        rintro ⟨e1, e2⟩
        rw [decide_eq_true e1, decide_eq_true e2] at hf
        cases hf)
      refine ⟨⟨⟨by show 1 ≤ to_ - fr; omega, ?_⟩, ?_⟩, fun _ => ?_⟩
      · rw [if_neg (by rw [h4]; omega)]
        exact ⟨h3.symm, h4.symm, fun h0 => h5 (by rw [← h4]; exact h0) hlt⟩
      · rw [hst]
        exact ih.1
      · show (stN (Rn.st _) _).row = i ∧ (stN (Rn.st _) _).col = C
        rw [hst]
        rcases Nat.lt_or_ge to_ C with h | h
        · exact ih.2 h
        · obtain rfl : to_ = C := by omega
          have : runsC x L i to_ to_ n = [] := by
            cases n with
            | zero => rfl
            | succ n => unfold runsC; rw [if_neg (Nat.lt_irrefl _)]
          rw [this]
          exact ⟨rfl, rfl⟩
    · rw [if_neg hlt]
      exact ⟨trivial, fun h => absurd h hlt⟩
theorem runsC_next (x : Nat → Vz.Cl) (L : Nat → Int) (i C n : Nat) (s : StN) (hC : 0 < C) (hn : C ≤ n) (h1 : s.col = C) (h2 : s.row + 1 = i) :
    okN C s (runsC x L i C 0 n) ∧ (stN s (runsC x L i C 0 n)).row = i ∧ (stN s (runsC x L i C 0 n)).col = C := by
  obtain ⟨n, rfl⟩ : ∃ k, n = k + 1 := ⟨n - 1, by omega⟩
  have h := runsC_ok x L i C (n + 1) 0 ⟨i, 0, s.look, s.gd⟩ (by omega) (by omega) rfl rfl (fun h => by omega)
  unfold runsC at h ⊢
  rw [if_pos hC] at h ⊢
  obtain ⟨⟨⟨ha, hb⟩, hc⟩, hd⟩ := h
  refine ⟨⟨⟨ha, ?_⟩, hc⟩, hd hC⟩
  rw [if_pos h1]
  exact ⟨h2.symm, rfl⟩
theorem runsD_ok (D : Vz.Gd) (L : Nat → Nat → Int) (hC : 0 < D.C) : ∀ (n i : Nat) (s : StN), ((i = 0 ∧ s = StN.nil) ∨ (s.row + 1 = i ∧ s.col = D.C)) →
    okN D.C s (runsD D L i n) ∧ (0 < n → (stN s (runsD D L i n)).row + 1 = i + n ∧ (stN s (runsD D L i n)).col = D.C)
  | 0, i, s, h => ⟨trivial, fun h => by omega⟩
  | n + 1, i, s, h => by
    show okN D.C s (rowN D L i ++ runsD D L (i + 1) n) ∧ (0 < n + 1 → (stN s (rowN D L i ++ runsD D L (i + 1) n)).row + 1 = i + (n + 1) ∧ (stN s (rowN D L i ++ runsD D L (i + 1) n)).col = D.C)
    rw [okN_append, stN_append]
    have hr : okN D.C s (rowN D L i) ∧ (stN s (rowN D L i)).row = i ∧ (stN s (rowN D L i)).col = D.C := by
      rcases h with ⟨rfl, rfl⟩ | ⟨h1, h2⟩
      · have := runsC_ok (D.X 0) (L 0) 0 D.C D.C 0 StN.nil (by omega) (by omega) rfl rfl (fun h => by omega)
        exact ⟨this.1, this.2 hC⟩
      · exact runsC_next (D.X i) (L i) i D.C D.C s hC (Nat.le_refl _) h2 h1
    have ih := runsD_ok D L hC n (i + 1) (stN s (rowN D L i)) (.inr ⟨by rw [hr.2.1], hr.2.2⟩)
    refine ⟨⟨hr.1, ih.1⟩, fun _ => ?_⟩
    cases n with
    | zero =>
      show (stN s (rowN D L i)).row + 1 = i + 1 ∧ (stN s (rowN D L i)).col = D.C
      exact ⟨by rw [hr.2.1], hr.2.2⟩
    | succ n =>
      have := ih.2 (by omega)
      exact ⟨by rw [this.1]; omega, this.2⟩
theorem allN_ok (D : Vz.Gd) (L : Nat → Nat → Int) (hC : 0 < D.C) (hR : 0 < D.R) : okN D.C StN.nil (allN D L) ∧ (stN StN.nil (allN D L)).row + 1 = D.R ∧ (stN StN.nil (allN D L)).col = D.C := by
  have := runsD_ok D L hC D.R 0 StN.nil (.inl ⟨rfl, rfl⟩)
  have h2 := this.2 hR
  rw [Nat.zero_add] at h2
  exact ⟨this.1, h2⟩
/-! ### The texts of the runs, one behind the other -/
structure JnN where
  row : Nat
  text : List UInt8
def JnN.nil : JnN := ⟨0, []⟩
def joinR (s : JnN) (r : Rn) : JnN := ⟨max s.row r.row, s.text ++ List.replicate (r.row - s.row) 10 ++ r.text⟩
def joinN (s : JnN) (l : List Rn) : JnN := l.foldl joinR s
theorem joinN_append (s : JnN) (l m : List Rn) : joinN s (l ++ m) = joinN (joinN s l) m := List.foldl_append
theorem joinN_snoc (s : JnN) (l : List Rn) (r : Rn) : joinN s (l ++ [r]) = joinR (joinN s l) r := by rw [joinN_append]; rfl
theorem joinC (x : Nat → Vz.Cl) (L : Nat → Int) (i C : Nat) : ∀ (n fr : Nat) (t : List UInt8), C - fr ≤ n → fr ≤ C → joinN ⟨i, t⟩ (runsC x L i C fr n) = ⟨i, t ++ glyL x fr (C - fr)⟩
  | 0, fr, t, h1, h2 => by
    obtain rfl : fr = C := by omega
    show (⟨i, t⟩ : JnN) = _
    rw [Nat.sub_self]
    simp [glyL]
  | n + 1, fr, t, h1, h2 => by
    unfold runsC
    by_cases hlt : fr < C
    · rw [if_pos hlt]
      have hto := toR_ge (sameR L (fun k => (x k).gd) fr) (C - (fr + 1)) (fr + 1)
      generalize toR (sameR L (fun k => (x k).gd) fr) (fr + 1) (C - (fr + 1)) = to_ at *
      show joinN (joinR ⟨i, t⟩ _) _ = _
      have e : joinR ⟨i, t⟩ ⟨i, fr, to_ - fr, L fr, (x fr).gd, glyL x fr (to_ - fr)⟩ = ⟨i, t ++ glyL x fr (to_ - fr)⟩ := by
        unfold joinR
        simp
      rw [e, joinC x L i C n to_ _ (by omega) (by omega)]
      have := glyL_append x fr (to_ - fr) (C - to_)
      rw [show to_ - fr + (C - to_) = C - fr by omega, show fr + (to_ - fr) = to_ by omega] at this
      rw [this, List.append_assoc]
    · rw [if_neg hlt]
      obtain rfl : fr = C := by omega
      show (⟨i, t⟩ : JnN) = _
      rw [Nat.sub_self]
      simp [glyL]
theorem joinC_next (x : Nat → Vz.Cl) (L : Nat → Int) (i C n : Nat) (t : List UInt8) (hC : 0 < C) (hn : C ≤ n) : joinN ⟨i, t⟩ (runsC x L (i + 1) C 0 n) = ⟨i + 1, t ++ [10] ++ glyL x 0 C⟩ := by
  have h := joinC x L (i + 1) C n 0 (t ++ [10]) (by omega) (by omega)
  obtain ⟨n, rfl⟩ : ∃ k, n = k + 1 := ⟨n - 1, by omega⟩
  unfold runsC at h ⊢
  rw [if_pos hC] at h ⊢
  generalize toR (sameR L (fun k => (x k).gd) 0) (0 + 1) (C - (0 + 1)) = to_ at *
  have e : ∀ r : Rn, r.row = i + 1 → joinR ⟨i, t⟩ r = joinR ⟨i + 1, t ++ [10]⟩ r := fun r hr => by
    unfold joinR
    simp only
    rw [hr, show i + 1 - i = 1 by omega, show max i (i + 1) = i + 1 by omega, Nat.max_self, Nat.sub_self]
    simp
  show joinN (joinR ⟨i, t⟩ _) _ = _
  rw [e _ rfl]
  exact h
theorem rowsB_snoc (D : Vz.Gd) (i : Nat) : rowsB D (i + 1) = rowsB D i ++ glyL (D.X i) 0 D.C ++ [10] := rfl
theorem joinD (D : Vz.Gd) (L : Nat → Nat → Int) (hC : 0 < D.C) : ∀ (n i : Nat) (t : List UInt8), t ++ [10] = rowsB D (i + 1) → (joinN ⟨i, t⟩ (runsD D L (i + 1) n)).text ++ [10] = rowsB D (i + 1 + n)
  | 0, i, t, h => h
  | n + 1, i, t, h => by
    show (joinN ⟨i, t⟩ (rowN D L (i + 1) ++ runsD D L (i + 2) n)).text ++ [10] = _
    rw [joinN_append, show joinN ⟨i, t⟩ (rowN D L (i + 1)) = _ from joinC_next (D.X (i + 1)) (L (i + 1)) i D.C D.C t hC (Nat.le_refl _)]
    rw [joinD D L hC n (i + 1) _ (by rw [rowsB_snoc, h]), show i + 1 + 1 + n = i + 1 + (n + 1) by omega]
theorem allN_text (D : Vz.Gd) (L : Nat → Nat → Int) (hC : 0 < D.C) (hR : 0 < D.R) : (joinN JnN.nil (allN D L)).text ++ [10] = rowsB D D.R := by
  unfold allN
  obtain ⟨n, hn⟩ : ∃ k, D.R = k + 1 := ⟨D.R - 1, by omega⟩
  rw [hn]
  show (joinN JnN.nil (rowN D L 0 ++ runsD D L 1 n)).text ++ [10] = _
  rw [joinN_append, show joinN JnN.nil (rowN D L 0) = ⟨0, [] ++ glyL (D.X 0) 0 (D.C - 0)⟩ from joinC (D.X 0) (L 0) 0 D.C D.C 0 [] (by omega) (by omega)]
  have := joinD D L hC n 0 ([] ++ glyL (D.X 0) 0 (D.C - 0)) (by rw [rowsB_snoc]; rfl)
  rw [this, show 0 + 1 + n = n + 1 by omega]
end Go.Proofs.YtliacdaddncmaaaGreatDoor
