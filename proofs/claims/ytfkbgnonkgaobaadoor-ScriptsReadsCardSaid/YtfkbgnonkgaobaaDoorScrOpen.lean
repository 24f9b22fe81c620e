/- A parameter that is a slice of steps: what the row's reading gives. -/
import Derived.Test.YtfkbgnonkgaobaaDoorScrRight
import Derived.Test.YtfkbgnonkgaobaaDoorScrPlainB
import Derived.Deep.Slices
import Derived.ChangeArms
import Derived.ProofKit
namespace Go.Proofs.YtfkbgnonkgaobaaDoor
open Go.RowKit Go.Deep
set_option linter.unusedSimpArgs false
set_option linter.unusedVariables false

/-- The nine cells of a step, from cell o of block b on. -/
def StpAt (W : World) (b o : Nat) (x : Vz.Stp) : Prop :=
  W.cell? ⟨b, o, none⟩ = some (.int .i64 x.d) ∧ W.cell? ⟨b, o + 1, none⟩ = some (.string ⟨x.text.toArray⟩) ∧
  W.cell? ⟨b, o + 2, none⟩ = some (.int .i64 x.kind) ∧ W.cell? ⟨b, o + 3, none⟩ = some (.int .i64 x.code) ∧
  W.cell? ⟨b, o + 4, none⟩ = some (.bool x.shift) ∧ W.cell? ⟨b, o + 5, none⟩ = some (.bool x.ctrl) ∧
  W.cell? ⟨b, o + 6, none⟩ = some (.int .i64 x.rows) ∧ W.cell? ⟨b, o + 7, none⟩ = some (.int .i64 x.cols) ∧
  W.cell? ⟨b, o + 8, none⟩ = some (.int .i64 x.to)
theorem StpAt.below {W W' : World} {b o B : Nat} {x : Vz.Stp} (h : StpAt W b o x) (hb : Below B W W') (hB : b < B) : StpAt W' b o x := by
  obtain ⟨h0, h1, h2, h3, h4, h5, h6, h7, h8⟩ := h
  exact ⟨(hb.cell hB).trans h0, (hb.cell hB).trans h1, (hb.cell hB).trans h2, (hb.cell hB).trans h3, (hb.cell hB).trans h4, (hb.cell hB).trans h5, (hb.cell hB).trans h6, (hb.cell hB).trans h7, (hb.cell hB).trans h8⟩

/-- A slice of steps that reads as a list. -/
def Steps (B : Nat) (W : World) (A : Option Addr) (n : Nat) (L : List Vz.Stp) : Prop :=
  n = L.length ∧ (0 < n → ∃ b o, A = some ⟨b, o, none⟩ ∧ b < B ∧ ∀ i, i < n → StpAt W b (o + i * 9) (L[i]?.getD Vz.Stp.nil))
theorem Steps.below {B B' : Nat} {W W' : World} {A : Option Addr} {n : Nat} {L : List Vz.Stp} (h : Steps B W A n L) (hb : Below B' W W') (hB : B ≤ B') : Steps B W' A n L :=
  ⟨h.1, fun h0 => by
    obtain ⟨b, o, rfl, hlt, hi⟩ := h.2 h0
    exact ⟨b, o, rfl, hlt, fun i hh => (hi i hh).below hb (by omega)⟩⟩
theorem Steps.more {B B' : Nat} {W : World} {A : Option Addr} {n : Nat} {L : List Vz.Stp} (h : Steps B W A n L) (hB : B ≤ B') : Steps B' W A n L :=
  ⟨h.1, fun h0 => by
    obtain ⟨b, o, rfl, hlt, hi⟩ := h.2 h0
    exact ⟨b, o, rfl, by omega, hi⟩⟩
theorem Steps.at_ {B : Nat} {W : World} {A : Option Addr} {n : Nat} {L : List Vz.Stp} (h : Steps B W A n L) {k : Nat} (hk : k < n) : ∃ b o, A = some ⟨b, o, none⟩ ∧ b < B ∧ StpAt W b (o + k * 9) (L[k]?.getD Vz.Stp.nil) := by
  obtain ⟨b, o, rfl, hlt, hi⟩ := h.2 (by omega)
  exact ⟨b, o, rfl, hlt, hi k hk⟩

section
variable {H : Type} {enc : TypeId × Value → H} {w : World} {base : Nat} {spare : Nat → Bool} {held : Bool}
theorem five {α : Type} {l : List α} (h : l.length = 9) : ∃ a0 a1 a2 a3 a4 a5 a6 a7 a8, l = [a0, a1, a2, a3, a4, a5, a6, a7, a8] := by
  match l, h with
  | [a0, a1, a2, a3, a4, a5, a6, a7, a8], _ => exact ⟨_, _, _, _, _, _, _, _, _, rfl⟩
theorem cells27 : Tryd.prog.cellsOf 27 = 4 := by kernel_rfl
theorem cells29 : Tryd.prog.cellsOf 29 = 2 := by kernel_rfl
theorem cells33 : Tryd.prog.cellsOf 33 = 9 := by kernel_rfl
theorem cells3 : Tryd.prog.cellsOf 3 = 1 := by kernel_rfl
theorem cells4 : Tryd.prog.cellsOf 4 = 1 := by kernel_rfl
theorem cells9 : Tryd.prog.cellsOf 9 = 1 := by kernel_rfl
/-- A step's cells. -/
theorem open_step {fuel : Nat} {cs : List Value} {x : DataW H × List MemPlace} (h : DataW.trod enc Tryd.prog w base spare held fuel 33 cs = some x) :
    ∃ s : Vz.Stp, cs = [.int .i64 s.d, .string ⟨s.text.toArray⟩, .int .i64 s.kind, .int .i64 s.code, .bool s.shift, .bool s.ctrl, .int .i64 s.rows, .int .i64 s.cols, .int .i64 s.to] := by
  obtain ⟨xs, n, -, -, hl, hxl, hf⟩ := DataW.trod_struct Tryd.underlying33 h
  rw [cells33] at hl
  obtain ⟨a0, a1, a2, a3, a4, a5, a6, a7, a8, rfl⟩ := five hl
  have get : ∀ (i : Nat) (hi : i < 5), ∃ y, xs[i]? = some y := fun i hi => ⟨_, List.getElem?_eq_getElem (by rw [hxl]; exact hi)⟩
  obtain ⟨y0, e0⟩ := get 0 (by decide)
  obtain ⟨y1, e1⟩ := get 1 (by decide)
  obtain ⟨y2, e2⟩ := get 2 (by decide)
  obtain ⟨y3, e3⟩ := get 3 (by decide)
  obtain ⟨y4, e4⟩ := get 4 (by decide)
  have h0 : DataW.trod enc Tryd.prog w base spare held n 3 (([a0, a1, a2, a3, a4, a5, a6, a7, a8].drop 0).take (Tryd.prog.cellsOf 3)) = some y0 := (hf 0 _ rfl).trans e0
  have h1 : DataW.trod enc Tryd.prog w base spare held n 9 (([a0, a1, a2, a3, a4, a5, a6, a7, a8].drop 1).take (Tryd.prog.cellsOf 9)) = some y1 := (hf 1 _ rfl).trans e1
  have h2 : DataW.trod enc Tryd.prog w base spare held n 27 (([a0, a1, a2, a3, a4, a5, a6, a7, a8].drop 2).take (Tryd.prog.cellsOf 27)) = some y2 := (hf 2 _ rfl).trans e2
  have h3 : DataW.trod enc Tryd.prog w base spare held n 29 (([a0, a1, a2, a3, a4, a5, a6, a7, a8].drop 6).take (Tryd.prog.cellsOf 29)) = some y3 := (hf 3 _ rfl).trans e3
  have h4 : DataW.trod enc Tryd.prog w base spare held n 3 (([a0, a1, a2, a3, a4, a5, a6, a7, a8].drop 8).take (Tryd.prog.cellsOf 3)) = some y4 := (hf 4 _ rfl).trans e4
  rw [cells3] at h0 h4
  rw [cells9] at h1
  rw [cells27] at h2
  rw [cells29] at h3
  simp only [List.drop, List.take] at h0 h1 h2 h3 h4
  obtain ⟨d, hd, -, -⟩ := DataW.trod_int Tryd.underlying3 h0
  obtain ⟨T, hT, -, -⟩ := DataW.trod_string Tryd.underlying9 h1
  obtain ⟨z, hz, -, -⟩ := DataW.trod_int Tryd.underlying3 h4
  obtain ⟨ks, nk, -, -, -, hkl, hk⟩ := DataW.trod_struct Tryd.underlying27 h2
  obtain ⟨ss, ns, -, -, -, hsl, hs⟩ := DataW.trod_struct Tryd.underlying29 h3
  have getk : ∀ (i : Nat) (hi : i < 4), ∃ y, ks[i]? = some y := fun i hi => ⟨_, List.getElem?_eq_getElem (by rw [hkl]; exact hi)⟩
  have gets : ∀ (i : Nat) (hi : i < 2), ∃ y, ss[i]? = some y := fun i hi => ⟨_, List.getElem?_eq_getElem (by rw [hsl]; exact hi)⟩
  obtain ⟨k0, f0⟩ := getk 0 (by decide)
  obtain ⟨k1, f1⟩ := getk 1 (by decide)
  obtain ⟨k2, f2⟩ := getk 2 (by decide)
  obtain ⟨k3, f3⟩ := getk 3 (by decide)
  obtain ⟨s0, g0⟩ := gets 0 (by decide)
  obtain ⟨s1, g1⟩ := gets 1 (by decide)
  have j0 : DataW.trod enc Tryd.prog w base spare held nk 3 (([a2, a3, a4, a5].drop 0).take (Tryd.prog.cellsOf 3)) = some k0 := (hk 0 _ rfl).trans f0
  have j1 : DataW.trod enc Tryd.prog w base spare held nk 3 (([a2, a3, a4, a5].drop 1).take (Tryd.prog.cellsOf 3)) = some k1 := (hk 1 _ rfl).trans f1
  have j2 : DataW.trod enc Tryd.prog w base spare held nk 4 (([a2, a3, a4, a5].drop 2).take (Tryd.prog.cellsOf 4)) = some k2 := (hk 2 _ rfl).trans f2
  have j3 : DataW.trod enc Tryd.prog w base spare held nk 4 (([a2, a3, a4, a5].drop 3).take (Tryd.prog.cellsOf 4)) = some k3 := (hk 3 _ rfl).trans f3
  have i0 : DataW.trod enc Tryd.prog w base spare held ns 3 (([a6, a7].drop 0).take (Tryd.prog.cellsOf 3)) = some s0 := (hs 0 _ rfl).trans g0
  have i1 : DataW.trod enc Tryd.prog w base spare held ns 3 (([a6, a7].drop 1).take (Tryd.prog.cellsOf 3)) = some s1 := (hs 1 _ rfl).trans g1
  rw [cells3] at j0 j1 i0 i1
  rw [cells4] at j2 j3
  simp only [List.drop, List.take] at j0 j1 j2 j3 i0 i1
  obtain ⟨k, hk0, -, -⟩ := DataW.trod_int Tryd.underlying3 j0
  obtain ⟨c, hk1, -, -⟩ := DataW.trod_int Tryd.underlying3 j1
  obtain ⟨sh, hk2, -⟩ := DataW.trod_bool Tryd.underlying4 j2
  obtain ⟨ct, hk3, -⟩ := DataW.trod_bool Tryd.underlying4 j3
  obtain ⟨r, hs0, -, -⟩ := DataW.trod_int Tryd.underlying3 i0
  obtain ⟨o, hs1, -, -⟩ := DataW.trod_int Tryd.underlying3 i1
  simp only [List.cons.injEq, and_true] at hd hT hz hk0 hk1 hk2 hk3 hs0 hs1
  subst hd hT hz hk0 hk1 hk2 hk3 hs0 hs1
  exact ⟨⟨d, T.data.toList, k, c, sh, ct, r, o, z⟩, by simp⟩

theorem open_steps_len {fuel : Nat} {A : Option Addr} {m c : Nat} {x : DataW H × List MemPlace} (h : DataW.trod enc Tryd.prog w base spare held fuel 22 [.slice A m c] = some x) : m ≤ maxLen := by
  rcases open_slice Tryd.underlying22 h with ⟨h0, _⟩ | ⟨a, len, cap, m', n, D, Pl, h0, -, hl, hc, -⟩
  · simp only [List.cons.injEq, and_true, Value.slice.injEq] at h0
    obtain ⟨rfl, rfl, rfl⟩ := h0
    exact Nat.zero_le _
  · simp only [List.cons.injEq, and_true, Value.slice.injEq] at h0
    obtain ⟨rfl, rfl, rfl⟩ := h0
    exact Nat.le_trans hl hc
theorem open_steps {fuel : Nat} {A : Option Addr} {m c : Nat} {x : DataW H × List MemPlace} (h : DataW.trod enc Tryd.prog w base spare held fuel 22 [.slice A m c] = some x) : ∃ L, Steps w.heap.size w A m L := by
  rcases open_slice Tryd.underlying22 h with ⟨h0, _⟩ | ⟨a, len, cap, m', n, D, Pl, h0, -, hl, -, hm', -, hi⟩
  · simp only [List.cons.injEq, and_true, Value.slice.injEq] at h0
    obtain ⟨rfl, rfl, rfl⟩ := h0
    exact ⟨[], rfl, fun h => absurd h (by decide)⟩
  · simp only [List.cons.injEq, and_true, Value.slice.injEq] at h0
    obtain ⟨rfl, rfl, rfl⟩ := h0
    have hmm : m ≤ m' := by rw [hm']; split <;> omega
    rw [cells33] at hi
    have hx : ∀ i, i < m → ∃ s : Vz.Stp, w.cells? base (a.add (i * 9)) 9 = some [.int .i64 s.d, .string ⟨s.text.toArray⟩, .int .i64 s.kind, .int .i64 s.code, .bool s.shift, .bool s.ctrl, .int .i64 s.rows, .int .i64 s.cols, .int .i64 s.to] := fun i hh => by
      obtain ⟨cs', h1, h2⟩ := hi i (by omega)
      obtain ⟨s, rfl⟩ := open_step h2
      exact ⟨s, h1⟩
    haveI : Inhabited Vz.Stp := ⟨Vz.Stp.nil⟩
    obtain ⟨F, hF⟩ := choose_lt hx
    refine ⟨(List.range m).map F, by simp, fun h0 => ?_⟩
    have hc : ∀ i, i < m → ∀ j, j < 9 → w.cell? ((a.add (i * 9)).add j) = ([Value.int .i64 (F i).d, .string ⟨(F i).text.toArray⟩, .int .i64 (F i).kind, .int .i64 (F i).code, .bool (F i).shift, .bool (F i).ctrl, .int .i64 (F i).rows, .int .i64 (F i).cols, .int .i64 (F i).to] : List Value)[j]? := fun i hh j hj => by
      obtain ⟨_, _, hat⟩ := World.cells?_some (hF i hh)
      exact hat j hj
    have h1 : w.cell? a = some (.int .i64 (F 0).d) := by
      have := hc 0 h0 0 (by decide)
      simpa [Addr.add] using this
    have hs : a.spot = none := by
      unfold World.cell? at h1
      split at h1
      · split at h1
        · cases h1
        · rename_i hn; simpa using hn
      · cases h1
    have hlt := World.block_lt_of_cell? w a h1
    refine ⟨a.block, a.off, by cases a; simp_all, hlt, fun i hh => ?_⟩
    have hadd : ∀ j, j < 9 → w.cell? ⟨a.block, a.off + i * 9 + j, none⟩ = ([Value.int .i64 (F i).d, .string ⟨(F i).text.toArray⟩, .int .i64 (F i).kind, .int .i64 (F i).code, .bool (F i).shift, .bool (F i).ctrl, .int .i64 (F i).rows, .int .i64 (F i).cols, .int .i64 (F i).to] : List Value)[j]? := fun j hj => by
      rw [← hc i hh j hj, Deep.add_add]
      congr 1
      unfold Addr.add
      split
      · rename_i h9
        rw [show a.off + i * 9 + j = a.off by omega]
        obtain ⟨ab, ao, asp⟩ := a
        simp only at hs
        rw [hs]
      · simp [Nat.add_assoc]
    have hg : ((List.range m).map F)[i]?.getD Vz.Stp.nil = F i := by simp [hh]
    rw [hg]
    exact ⟨by simpa using hadd 0 (by decide), by simpa using hadd 1 (by decide), by simpa using hadd 2 (by decide), by simpa using hadd 3 (by decide), by simpa using hadd 4 (by decide), by simpa using hadd 5 (by decide), by simpa using hadd 6 (by decide), by simpa using hadd 7 (by decide), by simpa using hadd 8 (by decide)⟩
end
end Go.Proofs.YtfkbgnonkgaobaaDoor
