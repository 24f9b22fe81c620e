import Derived.Test.YtncgigapgklhcaaGreatDoorHT
import Derived.Test.YtncgigapgklhcaaGreatDoorJA

set_option maxRecDepth 100000
set_option maxHeartbeats 16000000
namespace Go.Proofs.YtncgigapgklhcaaGreatDoor
open Go.RowKit
set_option linter.unusedSimpArgs false
set_option linter.unusedVariables false
/- The document's answer for an ADM-3A (vizardref18), in plain terms: cells by their numbers, row by row. -/
section
structure Rf where
 R : Nat
 C : Nat
 F : Nat → Vz.Cl
 row : Nat
 col : Nat
 T : Nat → Bool
 attr : Int
 gd : Bool
 pr : Bool
 seq : List UInt8
 q : List UInt8
 most : Int
 over : Bool
def Rf.here (r : Rf) : Nat := r.row * r.C + r.col
def Rf.may (r : Rf) : Prop := 1 ≤ r.R ∧ r.R ≤ 6 ∧ 1 ≤ r.C ∧ r.C ≤ 12 ∧ r.row < r.R ∧ r.col < r.C
theorem Rf.may.n {r : Rf} (h : r.may) : 1 ≤ r.R * r.C ∧ r.R * r.C ≤ 72 := by
 obtain ⟨h1, h2, h3, h4, _⟩ := h
 exact ⟨Nat.mul_le_mul h1 h3, Nat.mul_le_mul h2 h4⟩
theorem Rf.may.here_lt {r : Rf} (h : r.may) : r.here < r.R * r.C ∧ (r.row + 1) * r.C ≤ r.R * r.C ∧ r.row * r.C + r.C = (r.row + 1) * r.C := by
 obtain ⟨h1, h2, h3, h4, h5, h6⟩ := h
 have e := Nat.succ_mul r.row r.C
 have : (r.row + 1) * r.C ≤ r.R * r.C := Nat.mul_le_mul_right _ h5
 unfold Rf.here
 refine ⟨?_, this, e.symm⟩
 have e' : r.row.succ * r.C = (r.row + 1) * r.C := rfl
 omega
def newR (R C : Nat) (most : Int) : Rf := ⟨R, C, fun _ => Vz.Cl.blank, 0, 0, fun _ => false, 0, false, false, [], [], most, false⟩
def clearR (r : Rf) (a b : Nat) : Rf := { r with F := fun k => if a ≤ k ∧ k ≤ b ∧ ¬ (r.pr = true ∧ (r.F k).gd = true) then Vz.Cl.blank else r.F k }
def sayR (r : Rf) (l : List UInt8) : Rf := if r.most < (r.q.length : Int) + (l.length : Int) then { r with over := true } else { r with q := r.q ++ l }
def rowsF (r : Rf) (top : Nat) (down : Bool) (k : Nat) : Vz.Cl :=
 if k < top * r.C then r.F k
 else if down = true then (if k < top * r.C + r.C then Vz.Cl.blank else r.F (k - r.C))
 else (if k + r.C < r.R * r.C then r.F (k + r.C) else Vz.Cl.blank)
def rowsR (r : Rf) (top : Nat) (down : Bool) : Rf := { r with F := rowsF r top down }
def guardedR (r : Rf) (row : Nat) : Bool := decide (∃ k, k < r.R * r.C ∧ row * r.C ≤ k ∧ (r.F k).gd = true)
def feedR (r : Rf) : Rf := if r.row < r.R - 1 then { r with row := r.row + 1 } else if r.pr = true then { r with row := 0 } else rowsR r 0 false
def goesF (F : Nat → Vz.Cl) (last : Nat) : Nat → Nat → Nat
 | 0, k => k
 | n + 1, k => if k < last ∧ (F (k + 1)).gd = false then goesF F last n (k + 1) else k
def lastR (r : Rf) : Nat := if r.pr = true then goesF r.F ((r.row + 1) * r.C - 1) r.C r.here else (r.row + 1) * r.C - 1
def cellsF (r : Rf) (right : Bool) (k : Nat) : Vz.Cl :=
 if r.here ≤ k ∧ k ≤ lastR r then (if right = true ∧ r.here < k then r.F (k - 1) else if right = false ∧ k < lastR r then r.F (k + 1) else Vz.Cl.blank) else r.F k
def cellsR (r : Rf) (right : Bool) : Rf := if r.pr = true ∧ (r.F r.here).gd = true then r else { r with F := cellsF r right }
def backT (T : Nat → Bool) : Nat → Nat
 | 0 => 0
 | c + 1 => if T (c + 1) = true then c + 1 else backT T c
def foreT (T : Nat → Bool) (C : Nat) : Nat → Nat → Nat
 | 0, c => c
 | n + 1, c => if c < C - 1 ∧ T c = false then foreT T C n (c + 1) else c
def tabR (r : Rf) (back : Bool) : Rf := if back = true then { r with col := if r.col = 0 then 0 else backT r.T (r.col - 1) } else { r with col := min (foreT r.T r.C r.C (r.col + 1)) (r.C - 1) }
def placeR (n k : Nat) (back : Bool) (i : Nat) : Nat := if back = true then (k + n - i) % n else (k + i) % n
def freeF (r : Rf) (k : Nat) (back : Bool) : Nat → Nat → Option Nat
 | 0, _ => none
 | m + 1, i => if (r.F (placeR (r.R * r.C) k back i)).gd = false then some (placeR (r.R * r.C) k back i) else freeF r k back m (i + 1)
def freeR (r : Rf) (k : Nat) (back : Bool) : Option Nat := freeF r k back (r.R * r.C) 0
def goToR (r : Rf) (k : Nat) : Rf := { r with row := k / r.C, col := k % r.C }
def setR (r : Rf) (k : Nat) (c : Vz.Cl) : Rf := { r with F := fun i => if i = k then c else r.F i }
def cellR (r : Rf) (b : Nat) : Vz.Cl := ⟨foldG b, r.attr, r.gd, 0⟩
def nextR (r : Rf) : Option Nat → Rf
 | none => r
 | some k => goToR r k
def putR (r : Rf) (b : Nat) : Rf :=
 if r.pr = true then (match freeR r r.here false with
  | none => r
  | some k => nextR (setR r k (cellR r b)) (freeR (setR r k (cellR r b)) ((k + 1) % (r.R * r.C)) false))
 else if r.col < r.C - 1 then { setR r r.here (cellR r b) with col := r.col + 1 }
 else feedR { setR r r.here (cellR r b) with col := 0 }
def homeR (r : Rf) : Rf := goToR (clearR r 0 (r.R * r.C - 1)) 0
def groundR (r : Rf) (b : Nat) : Rf × Bool :=
 if b = 5 then (sayR r [65, 68, 77, 13], false)
 else if b = 8 then ({ r with col := r.col - 1 }, true)
 else if b = 9 then (tabR r false, false)
 else if b = 10 then (feedR r, false)
 else if b = 11 then ({ r with row := r.row - 1 }, true)
 else if b = 12 then ({ r with col := min (r.col + 1) (r.C - 1) }, false)
 else if b = 13 then ({ r with col := 0 }, false)
 else if b = 26 then (homeR r, false)
 else if b = 27 then ({ r with seq := [27] }, false)
 else if b = 30 then (goToR r 0, false)
 else if b = 31 then (feedR { r with col := 0 }, false)
 else if 32 ≤ b ∧ b ≤ 126 then (putR r b, false)
 else (r, false)
def linesR (r : Rf) (b : Nat) : Rf :=
 if b = 69 ∨ b = 82 then (if r.pr = false ∨ guardedR r r.row = false then rowsR { r with col := 0 } r.row (decide (b = 69)) else { r with col := 0 })
 else if b = 81 ∨ b = 87 then cellsR r (decide (b = 81))
 else r
def wipesR (r : Rf) (b : Nat) : Rf :=
 if b = 42 then homeR { r with pr := false, gd := false }
 else if b = 43 ∨ b = 59 ∨ b = 58 then homeR r
 else if b = 84 ∨ b = 116 then clearR r r.here ((r.row + 1) * r.C - 1)
 else if b = 89 ∨ b = 121 then clearR r r.here (r.R * r.C - 1)
 else r
def escR (r : Rf) (b : Nat) : Rf × Bool :=
 if b = 41 then ({ r with gd := true }, false)
 else if b = 40 then ({ r with gd := false }, false)
 else if b = 38 then ({ r with pr := true }, false)
 else if b = 39 then ({ r with pr := false }, false)
 else if b = 49 then ({ r with T := fun c => if c = r.col then true else r.T c }, false)
 else if b = 50 then ({ r with T := fun c => if c = r.col then false else r.T c }, false)
 else if b = 51 then ({ r with T := fun _ => false }, false)
 else if b = 73 then (tabR r true, true)
 else if b = 105 then (tabR r false, false)
 else if b = 106 then (if 0 < r.row then { r with row := r.row - 1 } else if r.pr = true then r else rowsR r 0 true, true)
 else if b = 63 then (sayR r [toldA r.row, toldA r.col, 13], false)
 else (r, false)
def escapeR (r : Rf) (b : Nat) : Rf × Bool := escR (wipesR (linesR r b) b) b
def moreR (r : Rf) (b : UInt8) : Rf :=
 if r.seq = [27, 71] then (if b.toNat < 48 ∨ 63 < b.toNat then { r with seq := [] } else { r with seq := [], attr := dyesI (b.toNat - 48) })
 else if r.seq.length = 2 then { r with seq := r.seq ++ [b] }
 else (fun (x y : Int) => if 0 ≤ x ∧ x < (r.R : Int) ∧ 0 ≤ y ∧ y < (r.C : Int) then { r with seq := [], row := x.toNat, col := y.toNat } else { r with seq := [] }) (((r.seq[2]?.getD 0).toNat : Int) - 32) ((b.toNat : Int) - 32)
def takeR (r : Rf) (b : UInt8) : Rf × Bool :=
 if b = 27 then ({ r with seq := [27] }, false)
 else if r.seq = [] then groundR r b.toNat
 else if 1 < r.seq.length then (moreR r b, false)
 else if b = 61 ∨ b = 71 then ({ r with seq := r.seq ++ [b] }, false)
 else escapeR { r with seq := [] } b.toNat
def restR (r : Rf) (back : Bool) : Rf := if r.pr = true ∧ (r.F r.here).gd = true then nextR r (freeR r r.here back) else r
def byteR (r : Rf) (b : UInt8) : Rf := restR (takeR r (b % 128)).1 (takeR r (b % 128)).2
def resetR (r : Rf) : Rf := { r with F := fun _ => Vz.Cl.blank, T := fun _ => false, row := 0, col := 0, attr := 0, gd := false, pr := false, seq := [] }
end
section
structure Rel (A : Ad) (r : Rf) : Prop where
 may : r.may
 R : A.S.D.R = r.R
 C : A.S.D.C = r.C
 X : ∀ i j, i < r.R → j < r.C → A.S.D.X i j = r.F (i * r.C + j)
 pl : A.S.pl = ⟨⟨(r.row : Int), (r.col : Int)⟩, false⟩
 T : ∀ c, c < r.C → A.S.T c = r.T c
 attr : A.attr = r.attr
 gd : A.gd = r.gd
 pr : A.pr = r.pr
 seq : A.seq = r.seq
 q : A.q = r.q
 over : A.over = r.over
 most : r.most = 20
theorem lin_lt {a b c d C : Nat} (hb : b < C) (hd : d < C) : (a * C + b < c * C + d) ↔ (a < c ∨ (a = c ∧ b < d)) := by
 constructor
 · intro h
   rcases Nat.lt_trichotomy a c with h1 | h1 | h1
   · exact .inl h1
   · subst h1; exact .inr ⟨rfl, by omega⟩
   · have := Nat.mul_le_mul_right C (show c + 1 ≤ a from h1)
     rw [Nat.succ_mul] at this
     omega
 · rintro (h | ⟨rfl, h⟩)
   · have := Nat.mul_le_mul_right C (show a + 1 ≤ c from h)
     rw [Nat.succ_mul] at this
     omega
   · omega
theorem lin_div {i j C : Nat} (hj : j < C) : (i * C + j) / C = i ∧ (i * C + j) % C = j := by
 refine ⟨?_, ?_⟩
 · rw [Nat.mul_comm, Nat.mul_add_div (by omega), Nat.div_eq_of_lt hj, Nat.add_zero]
 · rw [Nat.mul_comm, Nat.mul_add_mod, Nat.mod_eq_of_lt hj]
theorem lin_n {i j R C : Nat} (hi : i < R) (hj : j < C) : i * C + j < R * C := by
 have := Nat.mul_le_mul_right C (show i + 1 ≤ R from hi)
 rw [Nat.succ_mul] at this
 omega
theorem lin_of {k R C : Nat} (hk : k < R * C) : k / C < R ∧ k % C < C ∧ k / C * C + k % C = k := by
 have hC : 0 < C := by
  rcases Nat.eq_zero_or_pos C with rfl | h
  · omega
  · exact h
 refine ⟨Nat.div_lt_of_lt_mul (by rw [Nat.mul_comm]; exact hk), Nat.mod_lt _ hC, ?_⟩
 have := Nat.div_add_mod k C
 rw [Nat.mul_comm] at this
 exact this
theorem near_eq {R C : Nat} (h1 : 1 ≤ R ∧ R ≤ 255) (h2 : 1 ≤ C ∧ C ≤ 255) {x y : Int} {a b : Nat} (ha : max 0 (min x ((R : Int) - 1)) = a) (hb : max 0 (min y ((C : Int) - 1)) = b) : Vz.nearP R C ⟨x, y⟩ = ⟨(a : Int), (b : Int)⟩ := by
 unfold Vz.nearP
 rw [if_pos ((Vz.mayS_iff _ _).2 (by omega))]
 unfold Vz.nearI
 rw [ha, hb]
section
variable {A : Ad} {r : Rf}
theorem Rel.mm (h : Rel A r) : (1 ≤ r.R ∧ r.R ≤ 255) ∧ (1 ≤ r.C ∧ r.C ≤ 255) ∧ r.row < r.R ∧ r.col < r.C ∧ r.R ≤ 6 ∧ r.C ≤ 12 := by
 obtain ⟨h1, h2, h3, h4, h5, h6⟩ := h.may
 exact ⟨⟨h1, by omega⟩, ⟨h3, by omega⟩, h5, h6, h2, h4⟩
theorem Rel.lin (h : Rel A r) {k : Nat} (hk : k < r.R * r.C) : A.S.D.X (k / r.C) (k % r.C) = r.F k := by
 obtain ⟨h1, h2, h3⟩ := lin_of hk
 rw [h.X _ _ h1 h2, h3]
theorem Rel.moved (h : Rel A r) {p : Vz.Ps} {a b : Nat} (ha : a < r.R) (hb : b < r.C) (hp : Vz.nearP r.R r.C p = ⟨(a : Int), (b : Int)⟩) : Rel { A with S := moveS A.S p } { r with row := a, col := b } := by
 obtain ⟨h1, h2, h3, h4, _⟩ := h.may
 refine ⟨⟨h1, h2, h3, h4, ha, hb⟩, h.R, h.C, h.X, ?_, h.T, h.attr, h.gd, h.pr, h.seq, h.q, h.over, h.most⟩
 show Vz.Pl.mk (Vz.nearP A.S.D.R A.S.D.C p) false = _
 rw [h.R, h.C, hp]
theorem Rel.here (h : Rel A r) : Vz.nearP A.S.D.R A.S.D.C A.S.pl.at_ = ⟨(r.row : Int), (r.col : Int)⟩ := by
 obtain ⟨m1, m2, m3, m4, _⟩ := h.mm
 rw [h.R, h.C, h.pl]
 exact near_eq m1 m2 (by omega) (by omega)
theorem Rel.stepped (h : Rel A r) {x y : Int} {a b : Nat} (ha : a < r.R) (hb : b < r.C) (hp : Vz.nearP r.R r.C ⟨(r.row : Int) + Vz.cutI x, (r.col : Int) + Vz.cutI y⟩ = ⟨(a : Int), (b : Int)⟩) : Rel { A with S := stepS A.S x y } { r with row := a, col := b } := by
 obtain ⟨h1, h2, h3, h4, _⟩ := h.may
 refine ⟨⟨h1, h2, h3, h4, ha, hb⟩, h.R, h.C, h.X, ?_, h.T, h.attr, h.gd, h.pr, h.seq, h.q, h.over, h.most⟩
 show Vz.stepP A.S.D.R A.S.D.C A.S.pl x y = _
 unfold Vz.stepP
 simp only [h.here]
 rw [h.R, h.C, hp]
theorem Rel.turned (h : Rel A r) {D' : Vz.Gd} {F' : Nat → Vz.Cl} (hR : D'.R = A.S.D.R) (hC : D'.C = A.S.D.C) (hX : ∀ i j, i < r.R → j < r.C → D'.X i j = F' (i * r.C + j)) : Rel { A with S := { A.S with D := D' } } { r with F := F' } :=
 ⟨h.may, hR.trans h.R, hC.trans h.C, hX, h.pl, h.T, h.attr, h.gd, h.pr, h.seq, h.q, h.over, h.most⟩
theorem Rel.say (h : Rel A r) (l : List UInt8) : Rel (pushA A l) (sayR r l) := by
 unfold pushA sayR
 have hq : A.q.length = r.q.length := by rw [h.q]
 have hm := h.most
 by_cases e : 20 < A.q.length + l.length
 · rw [if_pos e, if_pos (by rw [hm]; omega)]
   exact ⟨h.may, h.R, h.C, h.X, h.pl, h.T, h.attr, h.gd, h.pr, h.seq, h.q, rfl, h.most⟩
 · rw [if_neg e, if_neg (by rw [hm]; omega)]
   exact ⟨h.may, h.R, h.C, h.X, h.pl, h.T, h.attr, h.gd, h.pr, h.seq, congrArg (· ++ l) h.q, h.over, h.most⟩
theorem lin_ge {i j top C : Nat} (hj : j < C) : (i * C + j < top * C) ↔ i < top := by
 have := lin_lt (a := i) (b := j) (c := top) (d := 0) hj (show 0 < C by omega)
 simp only [Nat.add_zero] at this
 rw [this]
 omega
theorem Rel.rowsD (h : Rel A r) (top : Nat) (ht : top < r.R) : Rel { A with S := { A.S with D := A.S.D.roll top (A.S.D.R - 1) (-1) Vz.Cl.blank } } (rowsR r top true) := by
 refine h.turned rfl rfl fun i j hi hj => ?_
 show (match Vz.rollAt top (A.S.D.R - 1) (-1) i with | none => Vz.Cl.blank | some k => A.S.D.X k j) = rowsF r top true (i * r.C + j)
 rw [h.R]
 unfold rowsF Vz.rollAt
 have e1 := lin_ge (i := i) (top := top) hj
 have e2 := lin_ge (i := i) (top := top + 1) hj
 rw [Nat.succ_mul] at e2
 by_cases c1 : i < top
 · rw [if_pos (e1.2 c1), if_neg (by omega)]
   exact h.X i j hi hj
 · rw [if_neg (fun e => c1 (e1.1 e)), if_pos (show true = true from rfl), if_pos (show top ≤ i ∧ i ≤ r.R - 1 by omega)]
   by_cases c2 : i < top + 1
   · rw [if_pos (by omega), if_pos (e2.2 c2)]
   · rw [if_neg (by omega), if_neg (fun e => c2 (e2.1 e))]
     obtain ⟨i', rfl⟩ : ∃ i', i = i' + 1 := ⟨i - 1, by omega⟩
     show A.S.D.X (((i' + 1 : Nat) : Int) + -1).toNat j = _
     rw [show (((i' + 1 : Nat) : Int) + -1).toNat = i' by omega, h.X i' j (by omega) hj, show (i' + 1) * r.C + j - r.C = i' * r.C + j by rw [Nat.succ_mul]; omega]
theorem Rel.rowsU (h : Rel A r) (top : Nat) (ht : top < r.R) : Rel { A with S := { A.S with D := A.S.D.roll top (A.S.D.R - 1) 1 Vz.Cl.blank } } (rowsR r top false) := by
 refine h.turned rfl rfl fun i j hi hj => ?_
 show (match Vz.rollAt top (A.S.D.R - 1) 1 i with | none => Vz.Cl.blank | some k => A.S.D.X k j) = rowsF r top false (i * r.C + j)
 rw [h.R]
 unfold rowsF Vz.rollAt
 have e1 := lin_ge (i := i) (top := top) hj
 have e2 := lin_ge (i := i + 1) (top := r.R) hj
 have e3 : (i + 1) * r.C + j = i * r.C + j + r.C := by rw [Nat.succ_mul]; omega
 rw [e3] at e2
 by_cases c1 : i < top
 · rw [if_pos (e1.2 c1), if_neg (by omega)]
   exact h.X i j hi hj
 · rw [if_neg (fun e => c1 (e1.1 e)), if_neg (show ¬ (false = true) by decide), if_pos (show top ≤ i ∧ i ≤ r.R - 1 by omega)]
   by_cases c2 : i + 1 < r.R
   · rw [if_neg (by omega), if_pos (e2.2 c2)]
     show A.S.D.X ((i : Int) + 1).toNat j = _
     rw [show ((i : Int) + 1).toNat = i + 1 by omega, h.X (i + 1) j c2 hj, e3]
   · rw [if_pos (by omega), if_neg (fun e => c2 (e2.1 e))]
theorem Rel.feed (h : Rel A r) : Rel { A with S := lfeedS A.S A.pr } (feedR r) := by
 obtain ⟨m1, m2, m3, m4, _⟩ := h.mm
 have hrow : A.S.pl.at_.row = (r.row : Int) := by rw [h.pl]
 have hcol : A.S.pl.at_.col = (r.col : Int) := by rw [h.pl]
 have hst : ∀ a : Nat, a < r.R → Vz.nearP r.R r.C ⟨(r.row : Int) + Vz.cutI 1, (r.col : Int) + Vz.cutI 0⟩ = ⟨(a : Int), (r.col : Int)⟩ → Rel { A with S := stepS A.S 1 0 } { r with row := a } := fun a ha hp => h.stepped (a := a) (b := r.col) ha m4 hp
 have hn1 : r.row < r.R - 1 → Vz.nearP r.R r.C ⟨(r.row : Int) + Vz.cutI 1, (r.col : Int) + Vz.cutI 0⟩ = ⟨((r.row + 1 : Nat) : Int), (r.col : Int)⟩ := fun c => near_eq m1 m2 (by show max 0 (min ((r.row : Int) + 1) _) = _; omega) (by show max 0 (min ((r.col : Int) + 0) _) = _; omega)
 have f1 : r.row < r.R - 1 → feedR r = { r with row := r.row + 1 } := fun c => if_pos c
 cases hp : r.pr with
 | false =>
   have hS : lfeedS A.S A.pr = feedS A.S 1 := if_pos (h.pr.trans hp)
   rw [hS]
   by_cases c : r.row < r.R - 1
   · rw [f1 c]
     have e0 : Vz.overF A.S.D.R A.S.pl.at_.row (Vz.cutF 1) = 0 := by
      rw [h.R, hrow]
      show Vz.overF r.R (r.row : Int) 1 = 0
      unfold Vz.overF
      omega
     have hX : ∀ i j, i < r.R → j < r.C → (A.S.D.roll 0 (A.S.D.R - 1) 0 Vz.Cl.blank).X i j = r.F (i * r.C + j) := by
      intro i j hi hj
      show (match Vz.rollAt 0 (A.S.D.R - 1) 0 i with | none => Vz.Cl.blank | some k => A.S.D.X k j) = _
      unfold Vz.rollAt
      rw [h.R, if_pos (by omega), if_neg (by omega)]
      show A.S.D.X ((i : Int) + 0).toNat j = _
      rw [show ((i : Int) + 0).toNat = i by omega]
      exact h.X i j hi hj
     have h1 := (hst (r.row + 1) (by omega) (hn1 c)).turned (D' := A.S.D.roll 0 (A.S.D.R - 1) 0 Vz.Cl.blank) (F' := r.F) rfl rfl hX
     have e : feedS A.S 1 = { stepS A.S 1 0 with D := A.S.D.roll 0 (A.S.D.R - 1) 0 Vz.Cl.blank } := by
      unfold feedS stepS
      rw [e0]
      rfl
     rw [e]
     exact h1
   · have hF : feedR r = rowsR r 0 false := (if_neg c).trans (if_neg (by rw [hp]; decide))
     rw [hF]
     have e0 : Vz.overF A.S.D.R A.S.pl.at_.row (Vz.cutF 1) = 1 := by
      rw [h.R, hrow]
      show Vz.overF r.R (r.row : Int) 1 = 1
      unfold Vz.overF
      omega
     have h1 := (hst r.row (by omega) (near_eq m1 m2 (by show max 0 (min ((r.row : Int) + 1) _) = _; omega) (by show max 0 (min ((r.col : Int) + 0) _) = _; omega))).rowsU 0 (by show 0 < r.R; omega)
     have e : feedS A.S 1 = { stepS A.S 1 0 with D := A.S.D.roll 0 (A.S.D.R - 1) 1 Vz.Cl.blank } := by
      unfold feedS stepS
      rw [e0]
      rfl
     rw [e]
     exact h1
 | true =>
   have hA : ¬ A.pr = false := by rw [h.pr, hp]; decide
   by_cases c : r.row < r.R - 1
   · have hS : lfeedS A.S A.pr = stepS A.S 1 0 := (if_neg hA).trans (if_neg (by rw [hrow, h.R]; omega))
     rw [hS, f1 c]
     exact hst (r.row + 1) (by omega) (hn1 c)
   · have hS : lfeedS A.S A.pr = moveS A.S ⟨0, A.S.pl.at_.col⟩ := (if_neg hA).trans (if_pos (by rw [hrow, h.R]; omega))
     have hF : feedR r = { r with row := 0 } := (if_neg c).trans (if_pos hp)
     rw [hS, hF, hcol]
     exact h.moved (a := 0) (b := r.col) (by omega) m4 (near_eq m1 m2 (by omega) (by omega))
theorem Rel.wiped (h : Rel A r) (a b c d : Nat) (ha : a < r.R) (hb : b < r.C) (hc : c < r.R) (hd : d < r.C) :
 Rel { A with S := { A.S with D := wipeD A.S.D ⟨(a : Int), (b : Int)⟩ ⟨(c : Int), (d : Int)⟩ Vz.Cl.blank A.pr } } (clearR r (a * r.C + b) (c * r.C + d)) := by
 have key : ∀ (x y z u : Nat), y < r.C → u < r.C → (aheadB (x : Int) (y : Int) (z : Int) (u : Int) = true ↔ x * r.C + y < z * r.C + u) := by
  intro x y z u hy hu
  rw [lin_lt hy hu]
  unfold aheadB
  simp only [Bool.or_eq_true, Bool.and_eq_true, decide_eq_true_eq]
  omega
 refine h.turned ?_ ?_ fun i j hi hj => ?_
 · unfold wipeD; split <;> rfl
 · unfold wipeD; split <;> rfl
 · have hX := h.X i j hi hj
   have k1 := key i j a b hj hb
   have k2 := key c d i j hd hj
   have k3 := key c d a b hd hb
   unfold wipeD
   by_cases e3 : aheadB (c : Int) (d : Int) (a : Int) (b : Int) = true
   · rw [if_pos e3]
     have := k3.1 e3
     rw [if_neg (by omega)]
     exact hX
   · rw [if_neg e3]
     show (if within ⟨(a : Int), (b : Int)⟩ ⟨(c : Int), (d : Int)⟩ i j = true then wipeX A.pr Vz.Cl.blank (A.S.D.X i j) else A.S.D.X i j) = _
     rw [hX, h.pr]
     unfold within wipeX
     simp only [Bool.and_eq_true, Bool.not_eq_true']
     by_cases e1 : aheadB (i : Int) (j : Int) (a : Int) (b : Int) = true
     · rw [if_neg (fun e => by rw [e1] at e; exact absurd e.1 (by decide)), if_neg (fun e => by have := k1.1 e1; omega)]
     · have n1 : ¬ i * r.C + j < a * r.C + b := fun e => e1 (k1.2 e)
       by_cases e2 : aheadB (c : Int) (d : Int) (i : Int) (j : Int) = true
       · rw [if_neg (fun e => by rw [e2] at e; exact absurd e.2 (by decide)), if_neg (fun e => by have := k2.1 e2; omega)]
       · have n2 : ¬ c * r.C + d < i * r.C + j := fun e => e2 (k2.2 e)
         rw [if_pos ⟨by simpa using e1, by simpa using e2⟩]
         by_cases e4 : r.pr = true ∧ (r.F (i * r.C + j)).gd = true
         · rw [if_pos e4, if_neg (fun e => e.2.2 e4)]
         · rw [if_neg e4, if_pos ⟨by omega, by omega, e4⟩]
end
end
section
theorem find_range (p : Nat → Bool) : ∀ (n v : Nat), v < n → p v = true → (∀ j, j < v → p j = false) → (List.range n).find? p = some v := by
 intro n v hv hp hl
 rw [List.find?_range_eq_some]
 exact ⟨hp, List.mem_range.2 hv, fun j hj => by rw [hl j hj]; rfl⟩
theorem find_range_none (p : Nat → Bool) (n : Nat) (hl : ∀ j, j < n → p j = false) : (List.range n).find? p = none := by
 rw [List.find?_eq_none]
 intro x hx
 rw [hl x (List.mem_range.1 hx)]
 decide
theorem foreT_ok (T : Nat → Bool) (C : Nat) : ∀ (n c : Nat), C ≤ n + c → c ≤ foreT T C n c ∧ (∀ j, c ≤ j → j < foreT T C n c → j < C - 1 ∧ T j = false) ∧ (C - 1 ≤ foreT T C n c ∨ T (foreT T C n c) = true)
 | 0, c, h => ⟨Nat.le_refl _, fun j h1 h2 => by unfold foreT at h2; omega, .inl (by unfold foreT; omega)⟩
 | n + 1, c, h => by
   unfold foreT
   by_cases e : c < C - 1 ∧ T c = false
   · rw [if_pos e]
     obtain ⟨h1, h2, h3⟩ := foreT_ok T C n (c + 1) (by omega)
     refine ⟨by omega, fun j hj hl => ?_, h3⟩
     by_cases ej : j = c
     · subst ej; exact e
     · exact h2 j (by omega) hl
   · rw [if_neg e]
     refine ⟨Nat.le_refl _, fun j h1 h2 => by omega, ?_⟩
     by_cases e1 : c < C - 1
     · right
       cases ht : T c with
       | true => rfl
       | false => exact absurd ⟨e1, ht⟩ e
     · left; omega
theorem find_both (p q : Nat → Bool) : (fun a => decide (p a = true ∧ q a = true)) = fun a => p a && q a := by
 funext a
 cases p a <;> cases q a <;> rfl
theorem stops_find (C : Nat) (T : Nat → Bool) (f : Int → Bool) : (stopsI C T).find? f = ((List.range C).find? fun c => T c && f c).map fun c : Nat => (c : Int) := by
 unfold stopsI Vz.stopsL
 rw [List.find?_map, List.find?_filter, find_both]
 rfl
theorem nextT_fore {C : Nat} {T T' : Nat → Bool} (hT : ∀ c, c < C → T c = T' c) {c : Nat} (hc : c < C) : nextT C T (c : Int) = ((min (foreT T' C C (c + 1)) (C - 1) : Nat) : Int) := by
 obtain ⟨h1, h2, h3⟩ := foreT_ok T' C C (c + 1) (by omega)
 unfold nextT
 rw [stops_find]
 generalize foreT T' C C (c + 1) = v at *
 by_cases hv : v < C ∧ T' v = true
 · rw [find_range _ C v hv.1 (by rw [hT v hv.1, hv.2]; simp; omega) (fun j hj => by
    by_cases hjc : c + 1 ≤ j
    · rw [hT j (by omega), (h2 j hjc hj).2]; rfl
    · simp only [Bool.and_eq_false_iff, decide_eq_false_iff_not]; right; omega)]
   show (v : Int) = _
   omega
 · rw [find_range_none _ C (fun j hj => by
    by_cases hjc : c + 1 ≤ j
    · by_cases hjv : j < v
      · rw [hT j hj, (h2 j hjc hjv).2]; rfl
      · have : j = v := by
         rcases h3 with h3 | h3
         · omega
         · exact absurd ⟨by omega, h3⟩ hv
        subst this
        cases ht : T' j with
        | true => exact absurd ⟨hj, ht⟩ hv
        | false => rw [hT j hj, ht]; rfl
    · simp only [Bool.and_eq_false_iff, decide_eq_false_iff_not]; right; omega)]
   show (C : Int) - 1 = _
   rcases h3 with h3 | h3
   · omega
   · have : ¬ v < C := fun e => hv ⟨e, h3⟩
     omega
theorem backT_ok (T : Nat → Bool) : ∀ c, backT T c ≤ c ∧ (∀ j, backT T c < j → j ≤ c → T j = false) ∧ (backT T c = 0 ∨ T (backT T c) = true)
 | 0 => ⟨Nat.le_refl _, fun j h1 h2 => by unfold backT at h1; omega, .inl rfl⟩
 | c + 1 => by
   unfold backT
   by_cases e : T (c + 1) = true
   · rw [if_pos e]
     exact ⟨Nat.le_refl _, fun j h1 h2 => by omega, .inr e⟩
   · rw [if_neg e]
     obtain ⟨h1, h2, h3⟩ := backT_ok T c
     refine ⟨by omega, fun j hj hl => ?_, h3⟩
     by_cases ej : j = c + 1
     · subst ej; simpa using e
     · exact h2 j hj (by omega)
theorem range_rev_find (p : Nat → Bool) : ∀ (n v : Nat), v < n → p v = true → (∀ j, v < j → j < n → p j = false) → (List.range n).reverse.find? p = some v
 | 0, v, h, _, _ => absurd h (Nat.not_lt_zero _)
 | n + 1, v, h, hp, hl => by
   rw [List.range_succ, List.reverse_append, List.reverse_singleton, List.singleton_append]
   by_cases e : v = n
   · subst e; rw [List.find?_cons, hp]
   · rw [List.find?_cons, hl n (by omega) (by omega)]
     exact range_rev_find p n v (by omega) hp fun j h1 h2 => hl j h1 (by omega)
theorem prevT_back {C : Nat} {T T' : Nat → Bool} (hT : ∀ c, c < C → T c = T' c) {c : Nat} (hc : c < C) : prevT C T (c : Int) = ((if c = 0 then 0 else backT T' (c - 1) : Nat) : Int) := by
 have hf : (stopsI C T).reverse.find? (fun d => decide (d < (c : Int))) = ((List.range C).reverse.find? fun d => T d && decide ((d : Int) < c)).map fun d : Nat => (d : Int) := by
  unfold stopsI Vz.stopsL
  rw [← List.map_reverse, ← List.filter_reverse, List.find?_map, List.find?_filter, find_both]
  rfl
 unfold prevT
 rw [hf]
 by_cases h0 : c = 0
 · subst h0
   rw [if_pos rfl]
   have : (List.range C).reverse.find? (fun d => T d && decide ((d : Int) < ((0 : Nat) : Int))) = none := by
    rw [List.find?_eq_none]
    intro x _
    simp only [Bool.and_eq_true, decide_eq_true_eq]
    omega
   rw [this]
   rfl
 · rw [if_neg h0]
   obtain ⟨h1, h2, h3⟩ := backT_ok T' (c - 1)
   generalize backT T' (c - 1) = v at *
   by_cases hv : T' v = true
   · rw [range_rev_find _ C v (by omega) (by rw [hT v (by omega), hv]; simp; omega) (fun j h4 h5 => by
      by_cases hj : j ≤ c - 1
      · rw [hT j h5, h2 j h4 hj]; rfl
      · simp only [Bool.and_eq_false_iff, decide_eq_false_iff_not]; right; omega)]
     rfl
   · have : (List.range C).reverse.find? (fun d => T d && decide ((d : Int) < (c : Int))) = none := by
      rw [List.find?_eq_none]
      intro x hx
      have hx' := List.mem_range.1 (List.mem_reverse.1 hx)
      rcases h3 with h3 | h3
      · subst h3
        by_cases hx0 : x = 0
        · subst hx0; rw [hT 0 hx']; simpa using fun e => absurd e hv
        · by_cases hxc : x ≤ c - 1
          · rw [hT x hx', h2 x (by omega) hxc]; simp
          · simp only [Bool.and_eq_true, decide_eq_true_eq]; omega
      · exact absurd h3 hv
     rw [this]
     rcases h3 with h3 | h3
     · show (0 : Int) = _; omega
     · exact absurd h3 hv
section
variable {A : Ad} {r : Rf}
theorem Rel.tab (h : Rel A r) : Rel { A with S := tabS A.S 1 } (tabR r false) ∧ Rel { A with S := tabS A.S (-1) } (tabR r true) := by
 obtain ⟨m1, m2, m3, m4, _⟩ := h.mm
 have h1 : goT A.S.D.C A.S.T A.S.pl.at_.col 1 = ((min (foreT r.T r.C r.C (r.col + 1)) (r.C - 1) : Nat) : Int) := by
  rw [goT_pos (by decide), h.C, h.pl]
  exact nextT_fore h.T m4
 have h2 : goT A.S.D.C A.S.T A.S.pl.at_.col (-1) = ((if r.col = 0 then 0 else backT r.T (r.col - 1) : Nat) : Int) := by
  rw [goT_neg (by decide), h.C, h.pl]
  exact prevT_back h.T m4
 have hb := (backT_ok r.T (r.col - 1)).1
 have h3 : (if r.col = 0 then 0 else backT r.T (r.col - 1)) < r.C := by split <;> omega
 refine ⟨?_, ?_⟩
 · have := h.moved (p := ⟨A.S.pl.at_.row, goT A.S.D.C A.S.T A.S.pl.at_.col 1⟩) (a := r.row) (b := min (foreT r.T r.C r.C (r.col + 1)) (r.C - 1)) m3 (by omega) (by
    rw [h1, h.pl]
    exact near_eq m1 m2 (by show max 0 (min (r.row : Int) _) = _; omega) (by omega))
   unfold tabS tabR
   rw [if_neg (by decide), if_neg (by decide)]
   exact this
 · have := h.moved (p := ⟨A.S.pl.at_.row, goT A.S.D.C A.S.T A.S.pl.at_.col (-1)⟩) (a := r.row) (b := if r.col = 0 then 0 else backT r.T (r.col - 1)) m3 h3 (by
    rw [h2, h.pl]
    exact near_eq m1 m2 (by show max 0 (min (r.row : Int) _) = _; omega) (by omega))
   unfold tabS tabR
   rw [if_neg (by decide), if_pos rfl]
   exact this
theorem freeF_find (r : Rf) (k : Nat) (back : Bool) (φ : Nat → Bool) (G : Nat → Nat) (hG : ∀ i, i < r.R * r.C → G i = placeR (r.R * r.C) k back i) (hφ : ∀ i, i < r.R * r.C → φ i = !(r.F i).gd) (hp : ∀ i, i < r.R * r.C → placeR (r.R * r.C) k back i < r.R * r.C) :
 ∀ (m i : Nat), i + m = r.R * r.C → ((List.range' i m).map G).find? φ = freeF r k back m i
 | 0, i, h => rfl
 | m + 1, i, h => by
   rw [List.range'_succ, List.map_cons, List.find?_cons, hG i (by omega), hφ _ (hp i (by omega))]
   unfold freeF
   cases hg : (r.F (placeR (r.R * r.C) k back i)).gd with
   | false => rfl
   | true =>
     rw [if_neg (by decide)]
     exact freeF_find r k back φ G hG hφ hp m (i + 1) (by omega)
theorem Rel.open_ (h : Rel A r) {p : Vz.Ps} {k : Nat} (hk : k < r.R * r.C) (hp : nearN r.R r.C p = k) (back : Bool) : openN A.S.D p (if back = true then -1 else 1) = freeR r k back := by
 have hn : 0 < r.R * r.C := by omega
 unfold openN freeR
 rw [h.R, h.C, hp, List.range_eq_range']
 refine freeF_find r k back _ _ (fun i hi => ?_) (fun i hi => ?_) (fun i hi => ?_) _ 0 (by omega)
 · unfold Vz.roundI placeR
   generalize r.R * r.C = n at *
   cases back with
   | false =>
     rw [if_neg (by decide), if_neg (by decide), Int.mul_one]
     exact (congrArg Int.toNat (show ((k : Int) + (i : Int)) % (n : Int) = (((k + i) % n : Nat) : Int) from rfl)).trans rfl
   | true =>
     rw [if_pos rfl, if_pos rfl]
     have e : ((k : Int) + (i : Int) * -1) % (n : Int) = (((k + n - i) % n : Nat) : Int) := by
      rw [show (k : Int) + (i : Int) * -1 = ((k + n - i : Nat) : Int) - (n : Int) by omega, Int.sub_emod, Int.emod_self, Int.sub_zero, Int.emod_emod_of_dvd _ (Int.dvd_refl _)]
      rfl
     rw [e]
     rfl
 · unfold freeN
   rw [h.C, h.lin hi]
 · unfold placeR
   split <;> exact Nat.mod_lt _ hn
theorem freeF_lt (r : Rf) (k : Nat) (back : Bool) (hn : 0 < r.R * r.C) : ∀ (m i : Nat) (q : Nat), freeF r k back m i = some q → q < r.R * r.C
 | 0, i, q, h => by cases h
 | m + 1, i, q, h => by
   unfold freeF at h
   split at h
   · injection h with h
     subst h
     unfold placeR
     split <;> exact Nat.mod_lt _ hn
   · exact freeF_lt r k back hn m (i + 1) q h
theorem Rel.goTo (h : Rel A r) {k : Nat} (hk : k < r.R * r.C) : Rel { A with S := moveS A.S (openP A.S.D (some k)) } (goToR r k) := by
 obtain ⟨m1, m2, _⟩ := h.mm
 obtain ⟨h1, h2, h3⟩ := lin_of hk
 refine h.moved h1 h2 ?_
 show Vz.nearP r.R r.C ⟨((k / A.S.D.C : Nat) : Int), ((k % A.S.D.C : Nat) : Int)⟩ = _
 rw [h.C]
 clear h3
 generalize k / r.C = x at *
 generalize k % r.C = y at *
 exact near_eq m1 m2 (by omega) (by omega)
theorem Rel.nearN (h : Rel A r) : nearN r.R r.C A.S.pl.at_ = r.here := by
 have := h.here
 rw [h.R, h.C] at this
 unfold Go.Proofs.YtncgigapgklhcaaGreatDoor.nearN
 rw [this]
 rfl
theorem Rel.free (h : Rel A r) (back : Bool) : Rel { A with S := freeS A.S (if back = true then -1 else 1) } (nextR r (freeR r r.here back)) := by
 have hn := h.may.here_lt.1
 unfold freeS
 rw [h.open_ hn h.nearN back]
 cases hf : freeR r r.here back with
 | none => exact h
 | some q => exact h.goTo (freeF_lt r _ _ (by omega) _ _ _ hf)
theorem Rel.rest (h : Rel A r) (back : Bool) : Rel (restA A back) (restR r back) := by
 have hn := h.may.here_lt.1
 obtain ⟨m1, m2, m3, m4, _⟩ := h.mm
 have hg : (atD A.S.D A.S.pl.at_) = r.F r.here := by
  unfold atD
  rw [h.pl]
  exact h.X r.row r.col m3 m4
 have hc : (A.pr = true ∧ (atD A.S.D A.S.pl.at_).gd = true) ↔ (r.pr = true ∧ (r.F r.here).gd = true) := by rw [h.pr, hg]
 unfold restA restR
 by_cases e : r.pr = true ∧ (r.F r.here).gd = true
 · rw [if_pos (hc.2 e), if_pos e]
   exact h.free back
 · rw [if_neg (fun e' => e (hc.1 e')), if_neg e]
   exact h
theorem Rel.set (h : Rel A r) {k : Nat} (hk : k < r.R * r.C) (c : Vz.Cl) : Rel { A with S := { A.S with D := A.S.D.set (k / A.S.D.C) (k % A.S.D.C) c } } (setR r k c) := by
 refine h.turned rfl rfl fun i j hi hj => ?_
 obtain ⟨h1, h2, h3⟩ := lin_of hk
 show (if i = k / A.S.D.C ∧ j = k % A.S.D.C then c else A.S.D.X i j) = if i * r.C + j = k then c else r.F (i * r.C + j)
 rw [h.C, h.X i j hi hj]
 by_cases e : i * r.C + j = k
 · obtain ⟨d1, d2⟩ := lin_div (i := i) hj
   rw [if_pos e, if_pos ⟨by rw [← e, d1], by rw [← e, d2]⟩]
 · rw [if_neg e, if_neg (fun e' => e (by rw [e'.1, e'.2, h3]))]
end
end
section
section
variable {A : Ad} {r : Rf}
theorem Rel.place (h : Rel A r) {a b : Nat} (ha : a < r.R) (hb : b < r.C) {pl : Vz.Pl} (hp : pl = ⟨⟨(a : Int), (b : Int)⟩, false⟩) : Rel { A with S := { A.S with pl := pl } } { r with row := a, col := b } := by
 obtain ⟨h1, h2, h3, h4, _⟩ := h.may
 exact ⟨⟨h1, h2, h3, h4, ha, hb⟩, h.R, h.C, h.X, hp, h.T, h.attr, h.gd, h.pr, h.seq, h.q, h.over, h.most⟩
theorem Rel.cell (h : Rel A r) (b : Nat) : cellA A b = cellR r b := by
 unfold cellA cellR
 rw [h.attr, h.gd]
theorem Rel.putGd (h : Rel A r) (hp : r.pr = true) (b : Nat) : Rel { A with S := putGS A.S (cellA A b) } (putR r b) := by
 obtain ⟨m1, m2, m3, m4, _⟩ := h.mm
 have hn := h.may.here_lt.1
 have ho := h.open_ hn h.nearN false
 rw [if_neg (by decide)] at ho
 unfold putGS putR
 rw [if_pos hp, ho, h.cell]
 generalize hc : cellR r b = c
 cases hf : freeR r r.here false with
 | none => exact h
 | some k =>
   have hk := freeF_lt r _ _ (by omega) _ _ _ hf
   have h1 := h.set hk c
   obtain ⟨d1, d2, d3⟩ := lin_of (k := (k + 1) % (r.R * r.C)) (Nat.mod_lt _ (by omega))
   have hnx : Go.Proofs.YtncgigapgklhcaaGreatDoor.nearN r.R r.C ⟨((nextN A.S.D k / A.S.D.C : Nat) : Int), ((nextN A.S.D k % A.S.D.C : Nat) : Int)⟩ = (k + 1) % (r.R * r.C) := by
    unfold Go.Proofs.YtncgigapgklhcaaGreatDoor.nearN nextN
    rw [h.R, h.C]
    generalize (k + 1) % (r.R * r.C) = m at *
    rw [near_eq (a := m / r.C) (b := m % r.C) m1 m2 (by generalize m / r.C = x at *; omega) (by generalize m % r.C = x at *; omega)]
    exact d3
   have ho2 := h1.open_ (Nat.mod_lt _ (by show 0 < r.R * r.C; omega)) hnx false
   rw [if_neg (by decide)] at ho2
   show Rel { A with S := { A.S with D := guardD A.S.D c k, pl := ⟨guardQ A.S.D c A.S.pl.at_ k, false⟩ } } (nextR (setR r k c) (freeR (setR r k c) ((k + 1) % (r.R * r.C)) false))
   have hQ : guardQ A.S.D c A.S.pl.at_ k = guardP (guardD A.S.D c k) A.S.pl.at_ (freeR (setR r k c) ((k + 1) % (r.R * r.C)) false) := by
    unfold guardQ
    exact congrArg _ ho2
   rw [hQ]
   cases hf2 : freeR (setR r k c) ((k + 1) % (r.R * r.C)) false with
   | none => exact h1.place m3 m4 (by rw [← h.here]; rfl)
   | some q =>
     have hq : q < r.R * r.C := freeF_lt (setR r k c) _ _ (by show 0 < r.R * r.C; omega) _ _ _ hf2
     obtain ⟨e1, e2, e3⟩ := lin_of hq
     exact h1.place (a := q / r.C) (b := q % r.C) e1 e2 (by rw [← h.C]; rfl)
theorem Rel.putNo (h : Rel A r) (hp : r.pr = false) (b : Nat) : Rel { A with S := putS A.S (cellA A b) 2 } (putR r b) := by
 obtain ⟨m1, m2, m3, m4, m5, m6⟩ := h.mm
 have hn := h.may.here_lt.1
 have hmay : Vz.mayS (A.S.D.R : Int) (A.S.D.C : Int) = true := (Vz.mayS_iff _ _).2 (by rw [h.R, h.C]; omega)
 rw [h.cell]
 generalize hc : cellR r b = c
 have hR : putR r b = if r.col < r.C - 1 then { setR r r.here c with col := r.col + 1 } else feedR { setR r r.here c with col := 0 } := by
  unfold putR
  rw [if_neg (by rw [hp]; decide), hc]
 rw [hR]
 have h1 := h.set hn c
 obtain ⟨d1, d2⟩ := lin_div (i := r.row) m4
 have hset : A.S.D.set (r.here / A.S.D.C) (r.here % A.S.D.C) c = A.S.D.set r.row r.col c := by
  rw [h.C]
  unfold Rf.here
  rw [d1, d2]
 rw [hset] at h1
 have hah : Vz.aheadP A.S.D.R A.S.D.C A.S.pl = (⟨(r.row : Int), (r.col : Int)⟩, false) := by
  unfold Vz.aheadP
  rw [if_neg (by rw [h.pl]; rintro ⟨e, _⟩; cases e), h.here]
 have hnr : Vz.nearP (A.S.D.R : Int) (A.S.D.C : Int) ⟨(r.row : Int), (r.col : Int)⟩ = ⟨(r.row : Int), (r.col : Int)⟩ := by
  rw [h.R, h.C]
  exact near_eq m1 m2 (by omega) (by omega)
 have hS : putS A.S c 2 = { A.S with D := riseD (A.S.D.set r.row r.col c) (Vz.behindP A.S.D.R A.S.D.C ⟨(r.row : Int), (r.col : Int)⟩ 2).2 Vz.Cl.blank, pl := (Vz.behindP A.S.D.R A.S.D.C ⟨(r.row : Int), (r.col : Int)⟩ 2).1 } := by
  unfold putS putD
  rw [hah]
  rfl
 have hbe : Vz.behindP A.S.D.R A.S.D.C ⟨(r.row : Int), (r.col : Int)⟩ 2 = if (r.col : Int) < (r.C : Int) - 1 then (⟨⟨(r.row : Int), (r.col : Int) + 1⟩, false⟩, false) else (⟨⟨min ((r.row : Int) + 1) ((r.R : Int) - 1), 0⟩, false⟩, decide (min ((r.row : Int) + 1) ((r.R : Int) - 1) = (r.row : Int))) := by
  unfold Vz.behindP
  rw [if_pos hmay]
  simp only [hnr]
  rw [h.C, h.R]
  rfl
 rw [hS, hbe]
 by_cases c1 : r.col < r.C - 1
 · rw [if_pos (by omega), if_pos c1]
   exact h1.place (a := r.row) (b := r.col + 1) m3 (by show r.col + 1 < r.C; omega) rfl
 · rw [if_neg (by omega), if_neg c1]
   by_cases c2 : r.row < r.R - 1
   · have e1 : feedR { setR r r.here c with col := 0 } = { setR r r.here c with row := r.row + 1, col := 0 } := if_pos c2
     have e2 : min ((r.row : Int) + 1) ((r.R : Int) - 1) = ((r.row + 1 : Nat) : Int) := by omega
     rw [e1, e2, show decide (((r.row + 1 : Nat) : Int) = (r.row : Int)) = false from decide_eq_false (by omega)]
     exact h1.place (a := r.row + 1) (b := 0) (by show r.row + 1 < r.R; omega) (by show 0 < r.C; omega) rfl
   · have e1 : feedR { setR r r.here c with col := 0 } = rowsR { setR r r.here c with col := 0 } 0 false := (if_neg c2).trans (if_neg (by show ¬ r.pr = true; rw [hp]; decide))
     have e2 : min ((r.row : Int) + 1) ((r.R : Int) - 1) = (r.row : Int) := by omega
     rw [e1, e2, show decide ((r.row : Int) = (r.row : Int)) = true from decide_eq_true rfl]
     have h2 := h1.place (a := r.row) (b := 0) (pl := ⟨⟨(r.row : Int), 0⟩, false⟩) m3 (by show 0 < r.C; omega) rfl
     exact h2.rowsU 0 (by show 0 < r.R; omega)
theorem Rel.put (h : Rel A r) (b : Nat) : Rel { A with S := putAny A.S (cellA A b) A.pr } (putR r b) := by
 unfold putAny
 cases hp : r.pr with
 | true =>
   rw [if_pos (h.pr.trans hp)]
   exact h.putGd hp b
 | false =>
   rw [if_neg (by rw [h.pr, hp]; decide)]
   exact h.putNo hp b
theorem Rel.goes (h : Rel A r) : ∀ (m n t : Nat), t < r.C → r.C - t ≤ m → r.C - t ≤ n → goesF r.F ((r.row + 1) * r.C - 1) n (r.row * r.C + t) = r.row * r.C + lastN A.S.D r.row m t
 | 0, n, t, ht, hm, hn => by omega
 | m + 1, 0, t, ht, hm, hn => by omega
 | m + 1, n + 1, t, ht, hm, hn => by
   have m3 := h.mm.2.2.1
   have e := Nat.succ_mul r.row r.C
   have e' : r.row.succ * r.C = (r.row + 1) * r.C := rfl
   unfold goesF lastN
   have hX : t + 1 < r.C → freeAt A.S.D r.row ((t : Int) + 1) = !(r.F (r.row * r.C + t + 1)).gd := fun hlt => by
    unfold freeAt atD
    have := h.X r.row (t + 1) m3 hlt
    rw [h.C, show ((r.row : Int)).toNat = r.row from rfl, show ((t : Int) + 1).toNat = t + 1 from rfl, this, decide_eq_true (show 0 ≤ (t : Int) + 1 by omega), decide_eq_true (show (t : Int) + 1 < (r.C : Int) by omega)]
    rfl
   by_cases c : t + 1 < r.C
   · have hX := hX c
     cases hg : (r.F (r.row * r.C + t + 1)).gd with
     | false =>
       rw [hg] at hX
       have hX' : freeAt A.S.D r.row ((t : Int) + 1) = true := hX
       rw [if_pos ⟨by omega, rfl⟩, if_pos hX']
       exact h.goes m n (t + 1) c (by omega) (by omega)
     | true =>
       rw [hg] at hX
       rw [if_neg (fun e => by cases e.2), if_neg (by rw [hX]; decide)]
   · rw [if_neg (fun e => by omega), if_neg (fun e => by have := freeAt_lt e; rw [h.C] at this; omega)]
theorem Rel.slide (h : Rel A r) (l : Nat) (hl : r.col ≤ l ∧ l < r.C) (right : Bool) (n : Int) (hn : n = if right = true then -1 else 1) :
 ∀ i j, i < r.R → j < r.C → (A.S.D.slide r.row r.col l n Vz.Cl.blank).X i j = if r.here ≤ i * r.C + j ∧ i * r.C + j ≤ r.row * r.C + l then (if right = true ∧ r.here < i * r.C + j then r.F (i * r.C + j - 1) else if right = false ∧ i * r.C + j < r.row * r.C + l then r.F (i * r.C + j + 1) else Vz.Cl.blank) else r.F (i * r.C + j) := by
 intro i j hi hj
 have m3 := h.mm.2.2.1
 show (if i = r.row then (match Vz.rollAt r.col l n j with | none => Vz.Cl.blank | some k => A.S.D.X r.row k) else A.S.D.X i j) = _
 by_cases e : i = r.row
 · subst e
   rw [if_pos rfl]
   have hX := fun k hk => h.X r.row k m3 hk
   unfold Vz.rollAt Rf.here
   generalize r.row * r.C = b at *
   by_cases c1 : r.col ≤ j ∧ j ≤ l
   · rw [if_pos c1]
     cases right with
     | true =>
       rw [if_pos rfl] at hn
       by_cases c2 : r.col < j
       · rw [if_neg (by omega)]
         show A.S.D.X r.row ((j : Int) + n).toNat = _
         rw [if_pos (by omega), if_pos ⟨rfl, by omega⟩, show ((j : Int) + n).toNat = j - 1 by omega, hX (j - 1) (by omega), show b + (j - 1) = b + j - 1 by omega]
       · rw [if_pos (by omega)]
         show Vz.Cl.blank = _
         rw [if_pos (by omega), if_neg (fun e => by omega), if_neg (fun e => by cases e.1)]
     | false =>
       rw [if_neg (by decide)] at hn
       by_cases c2 : j < l
       · rw [if_neg (by omega)]
         show A.S.D.X r.row ((j : Int) + n).toNat = _
         rw [if_pos (by omega), if_neg (fun e => by cases e.1), if_pos ⟨rfl, by omega⟩, show ((j : Int) + n).toNat = j + 1 by omega, hX (j + 1) (by omega)]
         rfl
       · rw [if_pos (by omega)]
         show Vz.Cl.blank = _
         rw [if_pos (by omega), if_neg (fun e => by cases e.1), if_neg (by omega)]
   · rw [if_neg c1]
     show A.S.D.X r.row j = _
     rw [if_neg (by omega)]
     exact hX j hj
 · rw [if_neg e, h.X i j hi hj]
   have k1 := lin_lt (a := i) (b := j) (c := r.row) (d := r.col) hj (by omega)
   have k2 := lin_lt (a := r.row) (b := l) (c := i) (d := j) hl.2 hj
   unfold Rf.here
   rw [if_neg]
   rintro ⟨e1, e2⟩
   rcases Nat.lt_trichotomy i r.row with c | c | c
   · exact absurd (k1.2 (.inl c)) (by omega)
   · exact e c
   · exact absurd (k2.2 (.inl c)) (by omega)
theorem Rel.chars (h : Rel A r) (right : Bool) : Rel { A with S := charsS A.S (if right = true then 1 else -1) Vz.Cl.blank A.pr } (cellsR r right) := by
 obtain ⟨m1, m2, m3, m4, _⟩ := h.mm
 have e := Nat.succ_mul r.row r.C
 have e' : r.row.succ * r.C = (r.row + 1) * r.C := rfl
 have hrow : A.S.pl.at_.row.toNat = r.row := by rw [h.pl]; rfl
 have hcol : A.S.pl.at_.col.toNat = r.col := by rw [h.pl]; rfl
 have hcut : -(Vz.cutI (if right = true then 1 else -1)) = if right = true then -1 else 1 := by cases right <;> rfl
 have hX0 : A.S.D.X r.row r.col = r.F r.here := h.X _ _ m3 m4
 have key : ∀ l, r.col ≤ l ∧ l < r.C → lastR r = r.row * r.C + l → Rel { A with S := { A.S with D := A.S.D.slide r.row r.col l (if right = true then -1 else 1) Vz.Cl.blank } } { r with F := cellsF r right } := fun l hl hL => by
  refine h.turned rfl rfl fun i j hi hj => ?_
  rw [h.slide l hl right _ rfl i j hi hj]
  unfold cellsF
  rw [hL]
 by_cases hp : r.pr = true
 · have hap : A.pr = true := h.pr.trans hp
   by_cases hg : (r.F r.here).gd = true
   · have e1 : charsS A.S (if right = true then 1 else -1) Vz.Cl.blank A.pr = A.S := by
      unfold charsS charsD
      rw [hrow, hcol, if_pos hap, if_pos (by rw [hX0]; exact hg)]
     have e2 : cellsR r right = r := if_pos ⟨hp, hg⟩
     rw [e1, e2]
     exact h
   · have e1 : charsS A.S (if right = true then 1 else -1) Vz.Cl.blank A.pr = { A.S with D := A.S.D.slide r.row r.col (lastF A.S.D r.row r.col) (if right = true then -1 else 1) Vz.Cl.blank } := by
      unfold charsS charsD
      rw [hrow, hcol, if_pos hap, if_neg (by rw [hX0]; exact hg), hcut]
     have e2 : cellsR r right = { r with F := cellsF r right } := if_neg (fun e => hg e.2)
     rw [e1, e2]
     have hin := lastF_in A.S.D r.row r.col (by rw [h.C]; exact m4)
     rw [h.C] at hin
     refine key _ hin ?_
     unfold lastR lastF
     rw [if_pos hp, h.C]
     exact h.goes _ _ r.col m4 (by omega) (by omega)
 · have hap : ¬ A.pr = true := by rw [h.pr]; exact hp
   have e1 : charsS A.S (if right = true then 1 else -1) Vz.Cl.blank A.pr = { A.S with D := A.S.D.slide r.row r.col (r.C - 1) (if right = true then -1 else 1) Vz.Cl.blank } := by
    unfold charsS charsD
    rw [hrow, hcol, if_neg hap, hcut, h.C]
   have e2 : cellsR r right = { r with F := cellsF r right } := if_neg (fun e => hp e.1)
   rw [e1, e2]
   refine key _ (by omega) ?_
   unfold lastR
   rw [if_neg hp]
   omega
theorem guardN_pos (D : Vz.Gd) (row : Int) : ∀ k, 0 < guardN D row k ↔ ∃ q, q < k ∧ row ≤ ((q / D.C : Nat) : Int) ∧ (D.X (q / D.C) (q % D.C)).gd = true
 | 0 => ⟨fun h => absurd h (by unfold guardN; decide), fun ⟨q, h, _⟩ => absurd h (by omega)⟩
 | k + 1 => by
   have ih := guardN_pos D row k
   unfold guardN
   by_cases c : row ≤ ((k / D.C : Nat) : Int) ∧ (D.X (k / D.C) (k % D.C)).gd = true
   · rw [if_pos c]
     exact ⟨fun _ => ⟨k, Nat.lt_succ_self _, c⟩, fun _ => by omega⟩
   · rw [if_neg c, Nat.add_zero, ih]
     refine ⟨fun ⟨q, h1, h2⟩ => ⟨q, by omega, h2⟩, fun ⟨q, h1, h2⟩ => ⟨q, ?_, h2⟩⟩
     rcases Nat.lt_succ_iff_lt_or_eq.1 h1 with h1 | h1
     · exact h1
     · subst h1; exact absurd h2 c
theorem Rel.guards (h : Rel A r) : 0 < guardN A.S.D r.row (r.R * r.C) ↔ guardedR r r.row = true := by
 have m := h.mm
 rw [guardN_pos]
 unfold guardedR
 rw [decide_eq_true_iff, h.C]
 refine exists_congr fun q => ?_
 refine ⟨fun ⟨h1, h2, h3⟩ => ⟨h1, ?_, by rw [← h.lin h1]; exact h3⟩, fun ⟨h1, h2, h3⟩ => ⟨h1, ?_, by rw [h.lin h1]; exact h3⟩⟩
 · exact (Nat.le_div_iff_mul_le (by omega)).1 (Int.ofNat_le.1 h2)
 · exact Int.ofNat_le.2 ((Nat.le_div_iff_mul_le (by omega)).2 h2)
theorem Rel.first (h : Rel A r) : Rel { A with S := columnS A.S 0 } { r with col := 0 } := by
 obtain ⟨m1, m2, m3, m4, _⟩ := h.mm
 exact h.moved (p := ⟨A.S.pl.at_.row, 0⟩) (a := r.row) (b := 0) m3 (by omega) (near_eq m1 m2 (by rw [h.pl]; show max 0 (min (r.row : Int) _) = _; omega) (by omega))
theorem Rel.lines (h : Rel A r) (down : Bool) : Rel { A with S := linesS (columnS A.S 0) (if down = true then 1 else -1) Vz.Cl.blank A.pr } (if r.pr = false ∨ guardedR r r.row = false then rowsR { r with col := 0 } r.row down else { r with col := 0 }) := by
 have h1 := h.first
 have hg := h1.guards
 have m := h.mm
 have hrow : (columnS A.S 0).pl.at_.row.toNat = r.row := by rw [h1.pl]; rfl
 have hR : (columnS A.S 0).D = A.S.D := rfl
 have hcut : -(Vz.cutI (if down = true then 1 else -1)) = if down = true then -1 else 1 := by cases down <;> rfl
 have hg' : 0 < guardN A.S.D (r.row : Int) (A.S.D.R * A.S.D.C) ↔ guardedR r r.row = true := by rw [h.R, h.C]; exact hg
 have hS : linesS (columnS A.S 0) (if down = true then 1 else -1) Vz.Cl.blank A.pr = { columnS A.S 0 with D := if A.pr = true ∧ 0 < guardN A.S.D (r.row : Int) (A.S.D.R * A.S.D.C) then A.S.D else A.S.D.roll r.row (A.S.D.R - 1) (if down = true then -1 else 1) Vz.Cl.blank } := by
  unfold linesS linesD
  rw [hrow, hcut, hR]
 rw [hS]
 by_cases c : r.pr = true ∧ 0 < guardN A.S.D (r.row : Int) (A.S.D.R * A.S.D.C)
 · rw [if_pos ⟨h.pr.trans c.1, c.2⟩, if_neg (by rw [c.1, hg'.1 c.2]; decide)]
   exact h1
 · have hc : r.pr = false ∨ guardedR r r.row = false := by
    by_cases e : r.pr = false
    · exact .inl e
    · refine .inr ?_
      cases e2 : guardedR r r.row with
      | false => rfl
      | true => exact absurd ⟨by simpa using e, hg'.2 e2⟩ c
   rw [if_neg (fun e => c ⟨h.pr.symm.trans e.1, e.2⟩), if_pos hc]
   cases down with
   | true => exact h1.rowsD r.row m.2.2.1
   | false => exact h1.rowsU r.row m.2.2.1
end
end
section
section
variable {A : Ad} {r : Rf}
def RelB (x : Ad × Bool) (y : Rf × Bool) : Prop := Rel x.1 y.1 ∧ x.2 = y.2
theorem Rel.b (h : Rel A r) (b : Bool) : RelB (A, b) (r, b) := ⟨h, rfl⟩
theorem Rel.left (h : Rel A r) : Rel { A with S := stepS A.S 0 (-1) } { r with col := r.col - 1 } := by
 obtain ⟨m1, m2, m3, m4, _⟩ := h.mm
 exact h.stepped (a := r.row) (b := r.col - 1) m3 (by omega) (near_eq m1 m2 (by show max 0 (min ((r.row : Int) + 0) _) = _; omega) (by show max 0 (min ((r.col : Int) + -1) _) = _; omega))
theorem Rel.above (h : Rel A r) : Rel { A with S := stepS A.S (-1) 0 } { r with row := r.row - 1 } := by
 obtain ⟨m1, m2, m3, m4, _⟩ := h.mm
 exact h.stepped (a := r.row - 1) (b := r.col) (by omega) m4 (near_eq m1 m2 (by show max 0 (min ((r.row : Int) + -1) _) = _; omega) (by show max 0 (min ((r.col : Int) + 0) _) = _; omega))
theorem Rel.right (h : Rel A r) : Rel { A with S := stepS A.S 0 1 } { r with col := min (r.col + 1) (r.C - 1) } := by
 obtain ⟨m1, m2, m3, m4, _⟩ := h.mm
 exact h.stepped (a := r.row) (b := min (r.col + 1) (r.C - 1)) m3 (by omega) (near_eq m1 m2 (by show max 0 (min ((r.row : Int) + 0) _) = _; omega) (by show max 0 (min ((r.col : Int) + 1) _) = _; omega))
theorem Rel.home0 (h : Rel A r) : Rel { A with S := moveS A.S ⟨0, 0⟩ } (goToR r 0) := by
 obtain ⟨m1, m2, m3, m4, _⟩ := h.mm
 have := h.moved (p := ⟨0, 0⟩) (a := 0) (b := 0) (by omega) (by omega) (near_eq m1 m2 (by omega) (by omega))
 have e : goToR r 0 = { r with row := 0, col := 0 } := by
  unfold goToR
  rw [Nat.zero_div, Nat.zero_mod]
 rw [e]
 exact this
theorem Rel.wipeAll (h : Rel A r) : Rel { A with S := clearS A.S A.pr } (homeR r) := by
 obtain ⟨m1, m2, m3, m4, _⟩ := h.mm
 have hn := h.may.n
 have e := Nat.succ_mul (r.R - 1) r.C
 have e' : (r.R - 1).succ * r.C = r.R * r.C := by rw [show (r.R - 1).succ = r.R by omega]
 have h1 := h.wiped 0 0 (r.R - 1) (r.C - 1) (by omega) (by omega) (by omega) (by omega)
 have e1 : Vz.nearP A.S.D.R A.S.D.C (partF 1 A.S.pl.at_) = ⟨((0 : Nat) : Int), ((0 : Nat) : Int)⟩ := by
  rw [h.R, h.C]
  exact near_eq m1 m2 (by omega) (by omega)
 have e2 : Vz.nearP A.S.D.R A.S.D.C (partT A.S.D.R A.S.D.C 1 A.S.pl.at_) = ⟨((r.R - 1 : Nat) : Int), ((r.C - 1 : Nat) : Int)⟩ := by
  rw [h.R, h.C]
  show Vz.nearP r.R r.C ⟨(r.R : Int) - 1, (r.C : Int) - 1⟩ = _
  exact near_eq m1 m2 (by omega) (by omega)
 have hS : partS A.S 1 Vz.Cl.blank A.pr = { A.S with D := wipeD A.S.D ⟨((0 : Nat) : Int), ((0 : Nat) : Int)⟩ ⟨((r.R - 1 : Nat) : Int), ((r.C - 1 : Nat) : Int)⟩ Vz.Cl.blank A.pr } := by
  unfold partS partD
  rw [if_pos (by decide), e1, e2]
 unfold clearS homeR
 rw [hS]
 have hc : clearR r (0 * r.C + 0) ((r.R - 1) * r.C + (r.C - 1)) = clearR r 0 (r.R * r.C - 1) := by
  rw [Nat.zero_mul, show (r.R - 1) * r.C + (r.C - 1) = r.R * r.C - 1 by omega]
 rw [hc] at h1
 exact h1.home0
theorem Rel.wipeLine (h : Rel A r) : Rel { A with S := partS A.S 5 Vz.Cl.blank A.pr } (clearR r r.here ((r.row + 1) * r.C - 1)) := by
 obtain ⟨m1, m2, m3, m4, _⟩ := h.mm
 have e := h.may.here_lt
 have h1 := h.wiped r.row r.col r.row (r.C - 1) m3 m4 m3 (by omega)
 have e1 : Vz.nearP A.S.D.R A.S.D.C (partF 5 A.S.pl.at_) = ⟨(r.row : Int), (r.col : Int)⟩ := h.here
 have e2 : Vz.nearP A.S.D.R A.S.D.C (partT A.S.D.R A.S.D.C 5 A.S.pl.at_) = ⟨(r.row : Int), ((r.C - 1 : Nat) : Int)⟩ := by
  rw [h.R, h.C]
  show Vz.nearP r.R r.C ⟨A.S.pl.at_.row, (r.C : Int) - 1⟩ = _
  rw [h.pl]
  exact near_eq m1 m2 (by show max 0 (min (r.row : Int) _) = _; omega) (by omega)
 unfold partS partD
 rw [if_pos (by decide), e1, e2]
 rw [show r.row * r.C + (r.C - 1) = (r.row + 1) * r.C - 1 by omega] at h1
 exact h1
theorem Rel.wipeRest (h : Rel A r) : Rel { A with S := partS A.S 2 Vz.Cl.blank A.pr } (clearR r r.here (r.R * r.C - 1)) := by
 obtain ⟨m1, m2, m3, m4, _⟩ := h.mm
 have hn := h.may.n
 have e := Nat.succ_mul (r.R - 1) r.C
 have e' : (r.R - 1).succ * r.C = r.R * r.C := by rw [show (r.R - 1).succ = r.R by omega]
 have h1 := h.wiped r.row r.col (r.R - 1) (r.C - 1) m3 m4 (by omega) (by omega)
 have e1 : Vz.nearP A.S.D.R A.S.D.C (partF 2 A.S.pl.at_) = ⟨(r.row : Int), (r.col : Int)⟩ := h.here
 have e2 : Vz.nearP A.S.D.R A.S.D.C (partT A.S.D.R A.S.D.C 2 A.S.pl.at_) = ⟨((r.R - 1 : Nat) : Int), ((r.C - 1 : Nat) : Int)⟩ := by
  rw [h.R, h.C]
  show Vz.nearP r.R r.C ⟨(r.R : Int) - 1, (r.C : Int) - 1⟩ = _
  exact near_eq m1 m2 (by omega) (by omega)
 unfold partS partD
 rw [if_pos (by decide), e1, e2]
 rw [show (r.R - 1) * r.C + (r.C - 1) = r.R * r.C - 1 by omega] at h1
 exact h1
theorem Rel.up (h : Rel A r) : Rel { A with S := if A.pr = true then stepS A.S (-1) 0 else feedS A.S (-1) } (if 0 < r.row then { r with row := r.row - 1 } else if r.pr = true then r else rowsR r 0 true) := by
 obtain ⟨m1, m2, m3, m4, _⟩ := h.mm
 have ha := h.above
 have hz : ¬ 0 < r.row → { r with row := r.row - 1 } = r := fun c => by
  obtain ⟨R, C, F, row, col, T, attr, gd, pr, seq, q, most, over⟩ := r
  have : row - 1 = row := by show row - 1 = row; have : ¬ 0 < row := c; omega
  simp [this]
 by_cases hp : r.pr = true
 · rw [if_pos (h.pr.trans hp)]
   by_cases c : 0 < r.row
   · rw [if_pos c]; exact ha
   · rw [if_neg c, if_pos hp]
     rw [hz c] at ha
     exact ha
 · rw [if_neg (by rw [h.pr]; exact hp)]
   have hrow : A.S.pl.at_.row = (r.row : Int) := by rw [h.pl]
   by_cases c : 0 < r.row
   · rw [if_pos c]
     have e0 : Vz.overF A.S.D.R A.S.pl.at_.row (Vz.cutF (-1)) = 0 := by
      rw [h.R, hrow]
      show Vz.overF r.R (r.row : Int) (-1) = 0
      unfold Vz.overF
      omega
     have hX : ∀ i j, i < r.R → j < r.C → (A.S.D.roll 0 (A.S.D.R - 1) 0 Vz.Cl.blank).X i j = r.F (i * r.C + j) := by
      intro i j hi hj
      show (match Vz.rollAt 0 (A.S.D.R - 1) 0 i with | none => Vz.Cl.blank | some k => A.S.D.X k j) = _
      unfold Vz.rollAt
      rw [h.R, if_pos (by omega), if_neg (by omega)]
      show A.S.D.X ((i : Int) + 0).toNat j = _
      rw [show ((i : Int) + 0).toNat = i by omega]
      exact h.X i j hi hj
     have h1 := ha.turned (D' := A.S.D.roll 0 (A.S.D.R - 1) 0 Vz.Cl.blank) (F' := r.F) rfl rfl hX
     have e : feedS A.S (-1) = { stepS A.S (-1) 0 with D := A.S.D.roll 0 (A.S.D.R - 1) 0 Vz.Cl.blank } := by
      unfold feedS stepS
      rw [e0]
      rfl
     rw [e]
     exact h1
   · rw [if_neg c, if_neg hp]
     have e0 : Vz.overF A.S.D.R A.S.pl.at_.row (Vz.cutF (-1)) = -1 := by
      rw [h.R, hrow]
      show Vz.overF r.R (r.row : Int) (-1) = -1
      unfold Vz.overF
      omega
     rw [hz c] at ha
     have h1 := ha.rowsD 0 (by omega)
     have e : feedS A.S (-1) = { stepS A.S (-1) 0 with D := A.S.D.roll 0 (A.S.D.R - 1) (-1) Vz.Cl.blank } := by
      unfold feedS stepS
      rw [e0]
      rfl
     rw [e]
     exact h1
theorem Rel.ground (h : Rel A r) (b : Nat) (hb : b ≠ 27) : RelB (groundA A b) (groundR r b) := by
 by_cases c5 : b = 5
 · subst c5; exact (h.say _).b _
 by_cases c8 : b = 8
 · subst c8; exact h.left.b _
 by_cases c9 : b = 9
 · subst c9; exact h.tab.1.b _
 by_cases c10 : b = 10
 · subst c10; exact h.feed.b _
 by_cases c11 : b = 11
 · subst c11; exact h.above.b _
 by_cases c12 : b = 12
 · subst c12; exact h.right.b _
 by_cases c13 : b = 13
 · subst c13; exact h.first.b _
 by_cases c26 : b = 26
 · subst c26; exact h.wipeAll.b _
 by_cases c30 : b = 30
 · subst c30; exact h.home0.b _
 by_cases c31 : b = 31
 · subst c31; exact h.first.feed.b _
 unfold groundA groundR
 rw [if_neg c5, if_neg c5, if_neg c8, if_neg c8, if_neg c9, if_neg c9, if_neg c10, if_neg c11, if_neg c11, if_neg c12, if_neg c12, if_neg c13, if_neg c13, if_neg c26, if_neg c26, if_neg hb, if_neg c30, if_neg c30, if_neg c31, if_neg c31, if_neg c10]
 by_cases c : 32 ≤ b ∧ b ≤ 126
 · rw [if_pos c, if_pos c]; exact (h.put b).b _
 · rw [if_neg c, if_neg c]; exact h.b _
theorem Rel.setGd (h : Rel A r) (b : Bool) : Rel { A with gd := b } { r with gd := b } := ⟨h.may, h.R, h.C, h.X, h.pl, h.T, h.attr, rfl, h.pr, h.seq, h.q, h.over, h.most⟩
theorem Rel.setPr (h : Rel A r) (b : Bool) : Rel { A with pr := b } { r with pr := b } := ⟨h.may, h.R, h.C, h.X, h.pl, h.T, h.attr, h.gd, rfl, h.seq, h.q, h.over, h.most⟩
theorem Rel.setSeq (h : Rel A r) (l : List UInt8) : Rel { A with seq := l } { r with seq := l } := ⟨h.may, h.R, h.C, h.X, h.pl, h.T, h.attr, h.gd, h.pr, rfl, h.q, h.over, h.most⟩
theorem Rel.setAttr (h : Rel A r) (a : Int) : Rel { A with attr := a } { r with attr := a } := ⟨h.may, h.R, h.C, h.X, h.pl, h.T, rfl, h.gd, h.pr, h.seq, h.q, h.over, h.most⟩
theorem Rel.stop (h : Rel A r) (on : Bool) : Rel { A with S := stopS A.S A.S.pl.at_.col on } { r with T := fun c => if c = r.col then on else r.T c } := by
 have m := h.mm
 have hc : A.S.pl.at_.col = (r.col : Int) := by rw [h.pl]
 unfold stopS
 rw [hc, if_pos ⟨by omega, by rw [h.C]; omega⟩]
 refine ⟨h.may, h.R, h.C, h.X, h.pl, fun c hc => ?_, h.attr, h.gd, h.pr, h.seq, h.q, h.over, h.most⟩
 show (if c = ((r.col : Int)).toNat then on else A.S.T c) = if c = r.col then on else r.T c
 rw [h.T c hc]
 rfl
theorem Rel.noStops (h : Rel A r) : Rel { A with S := stopsS A.S 0 } { r with T := fun _ => false } := by
 unfold stopsS
 rw [if_neg (by decide)]
 refine ⟨h.may, h.R, h.C, h.X, h.pl, fun c hc => ?_, h.attr, h.gd, h.pr, h.seq, h.q, h.over, h.most⟩
 show everyT A.S.D.C 0 c = false
 unfold everyT
 rw [show decide (0 < 0) = false from rfl]
 simp
theorem Rel.one (h : Rel A r) (b : Nat) : RelB (oneA A b) (escapeR r b) := by
 by_cases c42 : b = 42
 · subst c42; exact ((h.setGd false).setPr false).wipeAll.b _
 by_cases c43 : b = 43
 · subst c43; exact h.wipeAll.b _
 by_cases c59 : b = 59
 · subst c59; exact h.wipeAll.b _
 by_cases c58 : b = 58
 · subst c58; exact h.wipeAll.b _
 by_cases c84 : b = 84
 · subst c84; exact h.wipeLine.b _
 by_cases c116 : b = 116
 · subst c116; exact h.wipeLine.b _
 by_cases c89 : b = 89
 · subst c89; exact h.wipeRest.b _
 by_cases c121 : b = 121
 · subst c121; exact h.wipeRest.b _
 by_cases c69 : b = 69
 · subst c69; exact (h.lines true).b _
 by_cases c82 : b = 82
 · subst c82; exact (h.lines false).b _
 by_cases c81 : b = 81
 · subst c81; exact (h.chars true).b _
 by_cases c87 : b = 87
 · subst c87; exact (h.chars false).b _
 by_cases c40 : b = 40
 · subst c40; exact (h.setGd false).b _
 by_cases c41 : b = 41
 · subst c41; exact (h.setGd true).b _
 by_cases c38 : b = 38
 · subst c38; exact (h.setPr true).b _
 by_cases c39 : b = 39
 · subst c39; exact (h.setPr false).b _
 by_cases c49 : b = 49
 · subst c49; exact (h.stop true).b _
 by_cases c50 : b = 50
 · subst c50; exact (h.stop false).b _
 by_cases c51 : b = 51
 · subst c51; exact h.noStops.b _
 by_cases c105 : b = 105
 · subst c105; exact h.tab.1.b _
 by_cases c73 : b = 73
 · subst c73; exact h.tab.2.b _
 by_cases c106 : b = 106
 · subst c106; exact h.up.b _
 by_cases c63 : b = 63
 · subst c63
   have hr : A.S.pl.at_.row = (r.row : Int) := by rw [h.pl]
   have hc : A.S.pl.at_.col = (r.col : Int) := by rw [h.pl]
   show RelB (pushA A [toldA A.S.pl.at_.row, toldA A.S.pl.at_.col, 13], false) (sayR r [toldA r.row, toldA r.col, 13], false)
   rw [hr, hc]
   exact (h.say _).b _
 have e1 : oneA A b = (A, false) := by
  unfold oneA
  simp only [c42, c43, c59, c58, c84, c116, c89, c121, c69, c82, c81, c87, c40, c41, c38, c39, c49, c50, c51, c105, c73, c106, c63, if_false, or_self]
 have e2 : escapeR r b = (r, false) := by
  unfold escapeR escR wipesR linesR
  simp only [c42, c43, c59, c58, c84, c116, c89, c121, c69, c82, c81, c87, c40, c41, c38, c39, c49, c50, c51, c105, c73, c106, c63, if_false, or_self]
 rw [e1, e2]
 exact h.b _
theorem Rel.addr (h : Rel A r) (x y : Int) : Rel (addrA A x y) (if 0 ≤ x ∧ x < (r.R : Int) ∧ 0 ≤ y ∧ y < (r.C : Int) then { r with row := x.toNat, col := y.toNat } else r) := by
 obtain ⟨m1, m2, m3, m4, _⟩ := h.mm
 unfold addrA
 rw [h.R, h.C]
 by_cases c : 0 ≤ x ∧ x < (r.R : Int) ∧ 0 ≤ y ∧ y < (r.C : Int)
 · rw [if_pos c, if_pos c]
   exact h.moved (p := ⟨x, y⟩) (a := x.toNat) (b := y.toNat) (by omega) (by omega) (near_eq m1 m2 (by omega) (by omega))
 · rw [if_neg c, if_neg c]
   exact h
theorem takeC_one {b : UInt8} (c : b ≠ 27) (e : A.seq = [27]) : takeC A b = if b = 61 ∨ b = 71 then ({ A with seq := [27, b] }, false) else oneA { A with seq := [] } b.toNat := by
 unfold takeC
 rw [if_neg c, e]
 by_cases d : b = 61 ∨ b = 71
 · rw [if_pos d, if_neg (show ¬ [(27 : UInt8)].length = 0 by decide), if_pos (show ([(27 : UInt8)].length = 1 ∧ (b = 61 ∨ b = 71)) ∨ ([(27 : UInt8)].length = 2 ∧ [(27 : UInt8)][1]? = some 61) from .inl ⟨rfl, d⟩)]
   rfl
 · rw [if_neg d, if_neg (show ¬ [(27 : UInt8)].length = 0 by decide), if_neg (show ¬ (([(27 : UInt8)].length = 1 ∧ (b = 61 ∨ b = 71)) ∨ ([(27 : UInt8)].length = 2 ∧ [(27 : UInt8)][1]? = some 61)) from fun e => e.elim (fun e => d e.2) (fun e => absurd e.1 (by decide)))]
   show (if b = 61 then _ else if b = 71 then _ else oneA { A with seq := [] } b.toNat) = _
   rw [if_neg (fun e => d (.inl e)), if_neg (fun e => d (.inr e))]
theorem takeC_two {b : UInt8} (c : b ≠ 27) (e : A.seq = [27, 61]) : takeC A b = ({ A with seq := [27, 61, b] }, false) := by
 unfold takeC
 rw [if_neg c, e]
 rw [if_neg (show ¬ [(27 : UInt8), 61].length = 0 by decide), if_pos (show ([(27 : UInt8), 61].length = 1 ∧ (b = 61 ∨ b = 71)) ∨ ([(27 : UInt8), 61].length = 2 ∧ [(27 : UInt8), 61][1]? = some 61) from .inr ⟨rfl, rfl⟩)]
 rfl
theorem takeC_dye {b : UInt8} (c : b ≠ 27) (e : A.seq = [27, 71]) : takeC A b = (dyesA { A with seq := [] } b.toNat, false) := by
 unfold takeC
 rw [if_neg c, e]
 rw [if_neg (show ¬ [(27 : UInt8), 71].length = 0 by decide), if_neg (show ¬ (([(27 : UInt8), 71].length = 1 ∧ (b = 61 ∨ b = 71)) ∨ ([(27 : UInt8), 71].length = 2 ∧ [(27 : UInt8), 71][1]? = some 61)) from fun e => e.elim (fun e => absurd e.1 (by decide)) (fun e => absurd e.2 (by decide)))]
 rfl
theorem takeC_three {b x : UInt8} (c : b ≠ 27) (e : A.seq = [27, 61, x]) : takeC A b = (addrA { A with seq := [] } ((x.toNat : Int) - 32) ((b.toNat : Int) - 32), false) := by
 unfold takeC
 rw [if_neg c, e]
 rw [if_neg (show ¬ [(27 : UInt8), 61, x].length = 0 by simp), if_neg (show ¬ (([(27 : UInt8), 61, x].length = 1 ∧ (b = 61 ∨ b = 71)) ∨ ([(27 : UInt8), 61, x].length = 2 ∧ [(27 : UInt8), 61, x][1]? = some 61)) from fun e => e.elim (fun e => absurd e.1 (by simp)) (fun e => absurd e.1 (by simp)))]
 rfl
theorem takeC_ground {b : UInt8} (c : b ≠ 27) (e : A.seq = []) : takeC A b = groundA A b.toNat := by
 unfold takeC
 rw [if_neg c, e]
 exact if_pos rfl
theorem Rel.takeC (h : Rel A r) (hs : okSeq r.seq) (b : UInt8) : RelB (takeC A b) (takeR r b) := by
 have hq := h.seq
 by_cases c27 : b = 27
 · have e1 : Go.Proofs.YtncgigapgklhcaaGreatDoor.takeC A b = ({ A with seq := [27] }, false) := if_pos c27
   have e2 : takeR r b = ({ r with seq := [27] }, false) := if_pos c27
   rw [e1, e2]
   exact (h.setSeq [27]).b _
 have hR : takeR r b = if r.seq = [] then groundR r b.toNat else if 1 < r.seq.length then (moreR r b, false) else if b = 61 ∨ b = 71 then ({ r with seq := r.seq ++ [b] }, false) else escapeR { r with seq := [] } b.toNat := if_neg c27
 rcases hs with e | e | e | e | ⟨x, e⟩
 · rw [takeC_ground c27 (hq.trans e), hR, if_pos e]
   exact h.ground _ (fun e => c27 (UInt8.toNat_inj.1 (e.trans rfl)))
 · have hR1 := hR.trans ((if_neg (by rw [e]; simp)).trans (if_neg (by rw [e]; decide)))
   rw [takeC_one c27 (hq.trans e), hR1]
   by_cases c : b = 61 ∨ b = 71
   · rw [if_pos c, if_pos c, e]
     exact (h.setSeq [27, b]).b _
   · rw [if_neg c, if_neg c]
     exact (h.setSeq []).one b.toNat
 · have e3 : moreR r b = { r with seq := [27, 61, b] } := by
    unfold moreR
    rw [e, if_neg (by decide), if_pos (by decide)]
    rfl
   rw [takeC_two c27 (hq.trans e), hR, if_neg (by rw [e]; simp), if_pos (by rw [e]; decide), e3]
   exact (h.setSeq [27, 61, b]).b _
 · have e3 : moreR r b = if b.toNat < 48 ∨ 63 < b.toNat then { r with seq := [] } else { r with seq := [], attr := dyesI (b.toNat - 48) } := if_pos e
   rw [takeC_dye c27 (hq.trans e), hR, if_neg (by rw [e]; simp), if_pos (by rw [e]; decide), e3]
   refine ⟨?_, rfl⟩
   unfold dyesA
   show Rel (if _ then _ else _) (if _ then _ else _)
   by_cases c : b.toNat < 48 ∨ 63 < b.toNat
   · rw [if_pos c, if_pos c]; exact h.setSeq []
   · rw [if_neg c, if_neg c]; exact (h.setSeq []).setAttr _
 · have e3 : moreR r b = (if 0 ≤ ((x.toNat : Int) - 32) ∧ ((x.toNat : Int) - 32) < (r.R : Int) ∧ 0 ≤ ((b.toNat : Int) - 32) ∧ ((b.toNat : Int) - 32) < (r.C : Int) then { r with seq := [], row := ((x.toNat : Int) - 32).toNat, col := ((b.toNat : Int) - 32).toNat } else { r with seq := [] }) := by
    unfold moreR
    rw [e, if_neg (by simp), if_neg (by simp)]
    rfl
   rw [takeC_three c27 (hq.trans e), hR, if_neg (by rw [e]; simp), if_pos (by rw [e]; simp), e3]
   exact ⟨(h.setSeq []).addr _ _, rfl⟩
theorem Rel.byte (h : Rel A r) (hs : okSeq r.seq) (b : UInt8) : Rel (takeA A (b % 128)) (byteR r b) ∧ (takeR r (b % 128)).1.may := by
 obtain ⟨h1, h2⟩ := h.takeC hs (b % 128)
 refine ⟨?_, h1.may⟩
 unfold takeA byteR
 rw [h2]
 exact h1.rest _
theorem Rel.new {R C : Nat} (hR : 1 ≤ R ∧ R ≤ 6) (hC : 1 ≤ C ∧ C ≤ 12) : Rel (newA R C) (newR R C 20) :=
 ⟨⟨hR.1, hR.2, hC.1, hC.2, by show 0 < R; omega, by show 0 < C; omega⟩, rfl, rfl, fun _ _ _ _ => rfl, rfl, fun _ _ => rfl, rfl, rfl, rfl, rfl, rfl, rfl, rfl⟩
end
end
end Go.Proofs.YtncgigapgklhcaaGreatDoor
