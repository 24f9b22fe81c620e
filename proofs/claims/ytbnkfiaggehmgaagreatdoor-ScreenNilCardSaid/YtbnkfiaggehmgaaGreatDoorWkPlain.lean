/- Plain mathematics of the layer walk: sizes, places, the cursor. -/
import Derived.WalkKit
namespace Vz
set_option linter.unusedSimpArgs false
set_option linter.unusedVariables false

/-- A size that may be. -/
def mayS (r c : Int) : Bool := decide (1 ≤ r) && decide (r ≤ 255) && decide (1 ≤ c) && decide (c ≤ 255)
theorem mayS_iff (r c : Int) : mayS r c = true ↔ 1 ≤ r ∧ r ≤ 255 ∧ 1 ≤ c ∧ c ≤ 255 := by
  unfold mayS
  simp [and_assoc]
/-- The nearest number from 0 to below n. -/
def nearI (x n : Int) : Int := max 0 (min x (n - 1))
theorem nearI_in (x n : Int) (h : 1 ≤ n) : 0 ≤ nearI x n ∧ nearI x n < n := by unfold nearI; omega
theorem nearI_id (x n : Int) (h0 : 0 ≤ x) (h1 : x < n) : nearI x n = x := by unfold nearI; omega
/-- A row and a column. -/
structure Ps where
  row : Int
  col : Int
deriving DecidableEq
def Ps.nil : Ps := ⟨0, 0⟩
/-- Is a place on a screen of a size? -/
def Ps.inS (p : Ps) (r c : Int) : Prop := 0 ≤ p.row ∧ p.row < r ∧ 0 ≤ p.col ∧ p.col < c
/-- The place nearest to one. -/
def nearP (r c : Int) (p : Ps) : Ps := if mayS r c then ⟨nearI p.row r, nearI p.col c⟩ else Ps.nil
theorem nearP_in (r c : Int) (p : Ps) (h : mayS r c = true) : (nearP r c p).inS r c := by
  have hm := (mayS_iff r c).1 h
  unfold nearP
  rw [if_pos h]
  exact ⟨(nearI_in _ _ (by omega)).1, (nearI_in _ _ (by omega)).2, (nearI_in _ _ (by omega)).1, (nearI_in _ _ (by omega)).2⟩
theorem nearP_id (r c : Int) (p : Ps) (h : mayS r c = true) (hp : p.inS r c) : nearP r c p = p := by
  unfold nearP
  rw [if_pos h, nearI_id _ _ hp.1 hp.2.1, nearI_id _ _ hp.2.2.1 hp.2.2.2]
/-- Where the cursor is; is it to go to the next line? -/
structure Pl where
  at_ : Ps
  pend : Bool
deriving DecidableEq
def Pl.nil : Pl := ⟨Ps.nil, false⟩
def cutI (n : Int) : Int := max (-510) (min n 510)
def stepP (r c : Int) (p : Pl) (rows cols : Int) : Pl :=
  let q := nearP r c p.at_
  ⟨nearP r c ⟨q.row + cutI rows, q.col + cutI cols⟩, false⟩
/-- The first column of the next row; do the lines go up? -/
def nextP (r : Int) (p : Ps) : Ps × Bool := (⟨min (p.row + 1) (r - 1), 0⟩, decide (min (p.row + 1) (r - 1) = p.row))
/-- Where a glyph is to be put; do the lines go up ahead of it? -/
def aheadP (r c : Int) (p : Pl) : Ps × Bool := if p.pend = true ∧ mayS r c = true then nextP r (nearP r c p.at_) else (nearP r c p.at_, false)
/-- Where the cursor is behind a glyph; do the lines go up? -/
def behindP (r c : Int) (p : Ps) (wrap : Int) : Pl × Bool :=
  if mayS r c = true then
    let q := nearP r c p
    if q.col < c - 1 then (⟨⟨q.row, q.col + 1⟩, false⟩, false)
    else if wrap = 1 then (⟨q, false⟩, false)
    else if wrap = 2 then (⟨(nextP r q).1, false⟩, (nextP r q).2)
    else (⟨q, true⟩, false)
  else (Pl.nil, false)
theorem nextP_in (r c : Int) (p : Ps) (h : mayS r c = true) (hp : p.inS r c) : (nextP r p).1.inS r c := by
  have hm := (mayS_iff r c).1 h
  obtain ⟨h1, h2, h3, h4⟩ := hp
  unfold nextP Ps.inS
  simp only
  omega
theorem aheadP_in (r c : Int) (p : Pl) (h : mayS r c = true) : (aheadP r c p).1.inS r c := by
  unfold aheadP
  split
  · exact nextP_in r c _ h (nearP_in r c _ h)
  · exact nearP_in r c _ h
theorem behindP_in (r c : Int) (p : Ps) (wrap : Int) (h : mayS r c = true) : (behindP r c p wrap).1.at_.inS r c := by
  have hm := (mayS_iff r c).1 h
  have hq := nearP_in r c p h
  unfold behindP
  rw [if_pos h]
  simp only
  split
  · rename_i hlt
    obtain ⟨h1, h2, h3, h4⟩ := hq
    unfold Ps.inS
    simp only
    omega
  · split
    · exact hq
    · split
      · exact nextP_in r c _ h hq
      · exact hq
theorem stepP_in (r c : Int) (p : Pl) (rows cols : Int) (h : mayS r c = true) : (stepP r c p rows cols).at_.inS r c := nearP_in r c _ h
end Vz
