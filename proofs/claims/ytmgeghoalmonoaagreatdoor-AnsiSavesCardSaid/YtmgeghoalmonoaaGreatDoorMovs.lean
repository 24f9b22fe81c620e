import Derived.Test.YtmgeghoalmonoaaGreatDoorAnLaid
import Derived.RowKit

/- A parameter that is a slice of pairs of ints: what the row's reading gives. -/
namespace Go.Proofs.YtmgeghoalmonoaaGreatDoor
open Go.RowKit Go.Deep Go.ChangeShapes Go.WideShapes Go.ChangeAt
set_option linter.unusedSimpArgs false
set_option linter.unusedVariables false

/-- The two cells of a pair, from cell o of block b on. -/
def MovAt (W : World) (b o : Nat) (x : Int × Int) : Prop := W.cell? ⟨b, o, none⟩ = some (.int .i64 x.1) ∧ W.cell? ⟨b, o + 1, none⟩ = some (.int .i64 x.2)
theorem MovAt.below {W W' : World} {b o B : Nat} {x : Int × Int} (h : MovAt W b o x) (hb : Below B W W') (hB : b < B) : MovAt W' b o x := ⟨(hb.cell hB).trans h.1, (hb.cell hB).trans h.2⟩
/-- A slice of pairs that reads as a list. -/
def Movs (B : Nat) (W : World) (A : Option Addr) (n : Nat) (L : List (Int × Int)) : Prop :=
 n = L.length ∧ (0 < n → ∃ b o, A = some ⟨b, o, none⟩ ∧ b < B ∧ ∀ i, i < n → MovAt W b (o + i * 2) (L[i]?.getD (0, 0)))
theorem Movs.below {B B' : Nat} {W W' : World} {A : Option Addr} {n : Nat} {L : List (Int × Int)} (h : Movs B W A n L) (hb : Below B' W W') (hB : B ≤ B') : Movs B W' A n L :=
 ⟨h.1, fun h0 => by
  obtain ⟨b, o, rfl, hlt, hi⟩ := h.2 h0
  exact ⟨b, o, rfl, hlt, fun i hh => (hi i hh).below hb (by omega)⟩⟩
theorem Movs.at_ {B : Nat} {W : World} {A : Option Addr} {n : Nat} {L : List (Int × Int)} (h : Movs B W A n L) {k : Nat} (hk : k < n) : ∃ b o, A = some ⟨b, o, none⟩ ∧ b < B ∧ MovAt W b (o + k * 2) (L[k]?.getD (0, 0)) := by
 obtain ⟨b, o, rfl, hlt, hi⟩ := h.2 (by omega)
 exact ⟨b, o, rfl, hlt, hi k hk⟩
theorem cells_mv : Tryz.prog.cellsOf 24 = 2 := by kernel_rfl
section
variable {H : Type} {enc : TypeId × Value → H} {w : World} {base : Nat} {spare : Nat → Bool} {held : Bool}
theorem open_mv {fuel : Nat} {cs : List Value} {x : DataW H × List MemPlace} (h : DataW.trod enc Tryz.prog w base spare held fuel 24 cs = some x) :
 ∃ s : Int × Int, cs = [.int .i64 s.1, .int .i64 s.2] := by
 obtain ⟨xs, n, -, -, hl, hxl, hf⟩ := DataW.trod_array Tryz.underlying24 h
 rw [cells_mv] at hl
 rw [cells_i64] at hf
 obtain ⟨a0, a1, rfl⟩ := list_ps hl
 have get : ∀ (i : Nat) (hi : i < 2), ∃ y, xs[i]? = some y := fun i hi => ⟨_, List.getElem?_eq_getElem (by rw [hxl]; exact hi)⟩
 obtain ⟨y0, e0⟩ := get 0 (by decide)
 have h0 : DataW.trod enc Tryz.prog w base spare held n 3 (([a0, a1].drop (0 * 1)).take 1) = some y0 := (hf 0 (by decide)).trans e0
 simp only [Nat.zero_mul, List.drop, List.take] at h0
 obtain ⟨s0, g0, -, -⟩ := DataW.trod_int Tryz.underlying3 h0
 obtain ⟨y1, e1⟩ := get 1 (by decide)
 have h1 : DataW.trod enc Tryz.prog w base spare held n 3 (([a0, a1].drop (1 * 1)).take 1) = some y1 := (hf 1 (by decide)).trans e1
 simp only [Nat.one_mul, List.drop, List.take] at h1
 obtain ⟨s1, g1, -, -⟩ := DataW.trod_int Tryz.underlying3 h1
 simp only [List.cons.injEq, and_true] at g0 g1
 exact ⟨⟨s0, s1⟩, by simp [*]⟩
theorem open_movs_len {fuel : Nat} {A : Option Addr} {m c : Nat} {x : DataW H × List MemPlace} (h : DataW.trod enc Tryz.prog w base spare held fuel 43 [.slice A m c] = some x) : m ≤ maxLen := by
 rcases open_slice Tryz.underlying43 h with ⟨h0, _⟩ | ⟨a, len, cap, m', n, D, Pl, h0, -, hl, hc, -⟩
 · simp only [List.cons.injEq, and_true, Value.slice.injEq] at h0
   obtain ⟨rfl, rfl, rfl⟩ := h0
   exact Nat.zero_le _
 · simp only [List.cons.injEq, and_true, Value.slice.injEq] at h0
   obtain ⟨rfl, rfl, rfl⟩ := h0
   exact Nat.le_trans hl hc
theorem open_movs {fuel : Nat} {A : Option Addr} {m c : Nat} {x : DataW H × List MemPlace} (h : DataW.trod enc Tryz.prog w base spare held fuel 43 [.slice A m c] = some x) : ∃ L, Movs w.heap.size w A m L := by
 rcases open_slice Tryz.underlying43 h with ⟨h0, _⟩ | ⟨a, len, cap, m', n, D, Pl, h0, -, hl, -, hm', -, hi⟩
 · simp only [List.cons.injEq, and_true, Value.slice.injEq] at h0
   obtain ⟨rfl, rfl, rfl⟩ := h0
   exact ⟨[], rfl, fun h => absurd h (by decide)⟩
 · simp only [List.cons.injEq, and_true, Value.slice.injEq] at h0
   obtain ⟨rfl, rfl, rfl⟩ := h0
   have hmm : m ≤ m' := by rw [hm']; split <;> omega
   rw [cells_mv] at hi
   have hx : ∀ i, i < m → ∃ s : Int × Int, w.cells? base (a.add (i * 2)) 2 = some [.int .i64 s.1, .int .i64 s.2] := fun i hh => by
    obtain ⟨cs', h1, h2⟩ := hi i (by omega)
    obtain ⟨s, hs⟩ := open_mv h2
    subst hs
    exact ⟨s, h1⟩
   haveI : Inhabited (Int × Int) := ⟨(0, 0)⟩
   obtain ⟨F, hF⟩ := choose_lt hx
   refine ⟨(List.range m).map F, by simp, fun h0 => ?_⟩
   have hc : ∀ i, i < m → ∀ j, j < 2 → w.cell? ((a.add (i * 2)).add j) = ([.int .i64 (F i).1, .int .i64 (F i).2] : List Value)[j]? := fun i hh j hj => by
    obtain ⟨_, _, hat⟩ := World.cells?_some (hF i hh)
    exact hat j hj
   have h1 : w.cell? a = some (.int .i64 (F 0).1) := by
    have := hc 0 h0 0 (by decide)
    simpa [Addr.add] using this
   have hs : a.spot = none := by
    unfold World.cell? at h1
    split at h1
    · split at h1
      · cases h1
      · rename_i hn; simpa using hn
    · cases h1
   have hlt := World.block_lt_of_cell? w a h1
   refine ⟨a.block, a.off, by cases a; simp_all, hlt, fun i hh => ?_⟩
   have hadd : ∀ j, j < 2 → w.cell? ⟨a.block, a.off + i * 2 + j, none⟩ = ([.int .i64 (F i).1, .int .i64 (F i).2] : List Value)[j]? := fun j hj => by
    rw [← hc i hh j hj, Deep.add_add]
    congr 1
    unfold Addr.add
    split
    · rename_i h9
      rw [show a.off + i * 2 + j = a.off by omega]
      obtain ⟨ab, ao, asp⟩ := a
      simp only at hs
      rw [hs]
    · simp [Nat.add_assoc]
   have hg : ((List.range m).map F)[i]?.getD (0, 0) = F i := by simp [hh]
   rw [hg]
   exact ⟨hadd 0 (by decide), hadd 1 (by decide)⟩
end
end Go.Proofs.YtmgeghoalmonoaaGreatDoor
