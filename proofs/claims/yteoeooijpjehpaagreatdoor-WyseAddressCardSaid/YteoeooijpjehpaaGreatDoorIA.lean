import Derived.Test.YteoeooijpjehpaaGreatDoorHT
import Derived.Lib.IndexMore
import Derived.Lib.SlTrimSet
import Derived.Lib.AtoiAll

set_option maxRecDepth 100000
set_option maxHeartbeats 16000000
namespace Go.Proofs.YteoeooijpjehpaaGreatDoor
open Go.RowKit
set_option linter.unusedSimpArgs false
set_option linter.unusedVariables false
/- The model of a Wyse 60 on a screen: what each byte does. -/
section
/-! ### Fields -/
def runsF (g : Nat → Bool) (from_ col : Nat) : Nat → List (Nat × Nat)
 | 0 => if from_ < col then [(from_, col - 1)] else []
 | n + 1 => if g col = false then runsF g from_ (col + 1) n else (if from_ < col then [(from_, col - 1)] else []) ++ runsF g (col + 1) (col + 1) n
def fieldsF (D : Vz.Gd) (r : Nat) : Nat → List (Nat × Nat × Nat)
 | 0 => []
 | n + 1 => ((runsF (fun c => (D.X r c).gd) 0 0 D.C).map fun p => (r, p.1, p.2)) ++ fieldsF D (r + 1) n
def allF (D : Vz.Gd) : List (Nat × Nat × Nat) := fieldsF D 0 D.R
def numF (D : Vz.Gd) (f : Nat × Nat × Nat) : Nat := f.1 * D.C + f.2.1
def tabF (D : Vz.Gd) (k : Nat) : Option (Nat × Nat × Nat) := ((allF D).find? fun f => decide (k < numF D f)).or (allF D).head?
def ftabS (S : Vz.Sr) : Vz.Sr :=
 match tabF S.D (S.pl.at_.row.toNat * S.D.C + S.pl.at_.col.toNat) with
 | none => S
 | some f => moveS S ⟨(f.1 : Int), (f.2.1 : Int)⟩
def sendR (ofG : Int → UInt8) (x : Nat → Vz.Cl) (c : Nat) (sent : Bool) : Nat → List UInt8
 | 0 => []
 | n + 1 => if (x c).gd = true then sendR ofG x (c + 1) sent n else (if sent = true ∧ (x (c - 1)).gd = true then [28] else []) ++ ofG (x c).g :: sendR ofG x (c + 1) true n
def sendF (ofG : Int → UInt8) (D : Vz.Gd) (r a b : Nat) : Nat → List UInt8
 | 0 => sendR ofG (D.X r) a false (b + 1 - a)
 | n + 1 => sendR ofG (D.X r) a false (D.C - a) ++ 31 :: sendF ofG D (r + 1) 0 b n
/-! ### The terminal -/
structure Wy where
 most : Nat
 S : Vz.Sr
 q : List UInt8
 over : Bool
 gd : Bool
 pr : Bool
 gr : Bool
 ins : Bool
 emb : Bool
 attr : Int
 status : List UInt8
 seq : List UInt8
def pushW (A : Wy) (l : List UInt8) : Wy := if A.most < A.q.length + l.length then { A with over := true } else { A with q := A.q ++ l }
def putW (A : Wy) (g m a : Int) : Wy := { A with S := putAny (if A.ins = true then charsS A.S 1 Vz.Cl.blank A.pr else A.S) ⟨g, a, A.gd, m⟩ A.pr }
def tabW (A : Wy) : Wy := { A with S := if A.pr = true then ftabS A.S else tabS A.S 1 }
def linesG : List Int := [0x252c, 0x2514, 0x250c, 0x2510, 0x251c, 0x2518, 0x2502, 0x2588, 0x253c, 0x2524, 0x2500, 0x2592, 0x2550, 0x2534, 0x2551, 0x2591]
def wyseG (i : Nat) : Int := if 48 ≤ i ∧ i < 64 then linesG[i - 48]?.getD 0 else if 32 ≤ i ∧ i ≤ 126 then (i : Int) else 65533
def plainG (i : Nat) : Int := if 32 ≤ i ∧ i ≤ 126 then (i : Int) else 65533
def backG (f : Nat → Int) (g : Int) : Option Nat := (List.range 256).find? fun i => decide (f i ≠ 65533) && decide (f i = g)
def ofW (g : Int) : UInt8 :=
 match backG plainG g with
 | some i => UInt8.ofNat i
 | none => match backG wyseG g with
   | some i => UInt8.ofNat i
   | none => 32
def setG (gr : Bool) (b : Nat) : Int := if gr = true then wyseG b else plainG b
def groundW (A : Wy) (b : Nat) : Wy × Bool :=
 if b = 5 then (pushW A [87, 89, 54, 48, 13], false)
 else if b = 8 then ({ A with S := stepS A.S 0 (-1) }, true)
 else if b = 9 then (tabW A, false)
 else if b = 10 then ({ A with S := lfeedS A.S A.pr }, false)
 else if b = 11 then ({ A with S := stepS A.S (-1) 0 }, true)
 else if b = 12 then ({ A with S := stepS A.S 0 1 }, false)
 else if b = 13 then ({ A with S := columnS A.S 0 }, false)
 else if b = 26 then ({ A with S := clearS A.S A.pr }, false)
 else if b = 30 then ({ A with S := moveS A.S ⟨0, 0⟩ }, false)
 else if 32 ≤ b ∧ b ≤ 126 then (putW A (setG A.gr b) 0 A.attr, false)
 else (A, false)
def goesW (A : Wy) (r c : Int) : Wy := if 0 ≤ r ∧ r < (A.S.D.R : Int) ∧ 0 ≤ c ∧ c < (A.S.D.C : Int) then { A with S := moveS A.S ⟨r, c⟩ } else A
def bitsW (b : Nat) : Option Int :=
 if b / 16 = 7 ∨ b / 16 = 3 then some ((if b / 16 = 7 then 2 else 0) + (if b % 2 = 1 then 32 else 0) + (if b / 2 % 2 = 1 then 8 else 0) + (if b / 4 % 2 = 1 then 16 else 0) + (if b / 8 % 2 = 1 then 4 else 0)) else none
def digitsL : List UInt8 := [48, 49, 50, 51, 52, 53, 54, 55, 56, 57]
def partB (l : List UInt8) (whole : Bool) : Bool := decide (l.length ≤ 3) && (decide (l ≠ []) || !whole) && decide (Go.Lib.trimS l digitsL = [])
def cutA (l : List UInt8) : List UInt8 := (Go.Lib.cut l [82]).1
def cutB (l : List UInt8) : List UInt8 := (Go.Lib.cut l [82]).2.1
def cutIs (l : List UInt8) : Bool := (Go.Lib.cut l [82]).2.2
def endsB (l : List UInt8) (c : UInt8) : Bool := Go.Lib.hasSuffix l [c]
def trimB (l : List UInt8) (c : UInt8) : List UInt8 := Go.Lib.trimSuffix l [c]
def numB (l : List UInt8) : Option Int :=
 match Go.Lib.atoiAll l with
 | .ok v => some v
 | _ => none
def numOk (l : List UInt8) : Bool := (numB l).isSome
def lessB (l : List UInt8) : Int := IntKind.i64.wrap ((numB l).getD 0 - 1)
def waitsW (b : UInt8) (l : List UInt8) : Bool :=
 if b = 61 then decide (l.length < 2)
 else if b = 71 ∨ b = 72 then decide (l = [])
 else if b = 70 then !endsB l 13
 else if b = 97 then partB (cutA l) (cutIs l) && (!cutIs l || partB (cutB l) false) && !endsB l 67
 else false
def modesW (A : Wy) (b : Nat) : Wy :=
 if b = 41 ∨ b = 40 then { A with gd := decide (b = 41) }
 else if b = 38 ∨ b = 39 then { A with pr := decide (b = 38) }
 else if b = 113 ∨ b = 114 then { A with ins := decide (b = 113) }
 else if b = 65 ∨ b = 66 then { A with emb := decide (b = 65) }
 else A
def sendW (A : Wy) (r a : Nat) : Wy := pushW A (sendF ofW A.S.D r a A.S.pl.at_.col.toNat (A.S.pl.at_.row.toNat - r) ++ [13])
def oneW (A : Wy) (b : Nat) : Wy × Bool :=
 if b = 42 then ({ A with gd := false, pr := false, S := clearS A.S false }, false)
 else if b = 43 ∨ b = 59 ∨ b = 58 then ({ A with S := clearS A.S A.pr }, false)
 else if b = 84 ∨ b = 116 then ({ A with S := partS A.S 5 Vz.Cl.blank A.pr }, false)
 else if b = 89 ∨ b = 121 then ({ A with S := partS A.S 2 Vz.Cl.blank A.pr }, false)
 else if b = 69 ∨ b = 82 then ({ A with S := linesS (columnS A.S 0) (if b = 82 then -1 else 1) Vz.Cl.blank A.pr }, false)
 else if b = 81 then ({ A with S := charsS A.S 1 Vz.Cl.blank A.pr }, false)
 else if b = 87 then ({ A with S := charsS A.S (-1) Vz.Cl.blank A.pr }, false)
 else if b = 49 ∨ b = 50 then ({ A with S := stopS A.S A.S.pl.at_.col (decide (b = 49)) }, false)
 else if b = 48 then ({ A with S := stopsS A.S 0 }, false)
 else if b = 105 then ({ A with S := tabS A.S 1 }, false)
 else if b = 73 then ({ A with S := tabS A.S (-1) }, true)
 else if b = 106 then ({ A with S := if A.pr = true then stepS A.S (-1) 0 else feedS A.S (-1) }, true)
 else if b = 63 then (pushW A [toldA A.S.pl.at_.row, toldA A.S.pl.at_.col, 13], false)
 else if b = 32 then (pushW A [54, 48, 13], false)
 else if b = 52 then (sendW A A.S.pl.at_.row.toNat 0, false)
 else if b = 53 then (sendW A 0 0, false)
 else (A, false)
def endW (A : Wy) (b : UInt8) (l : List UInt8) : Wy × Bool :=
 if b = 61 then (goesW A ((l[0]?.getD 0).toNat - 32) ((l[1]?.getD 0).toNat - 32), false)
 else if b = 97 then
  (if (cutIs (trimB l 67) && numOk (cutA (trimB l 67)) && numOk (cutB (trimB l 67)) && partB (cutA (trimB l 67)) true && partB (cutB (trimB l 67)) true && endsB l 67) = true then goesW A (lessB (cutA (trimB l 67))) (lessB (cutB (trimB l 67))) else A, false)
 else if b = 70 then ({ A with status := trimB l 13 }, false)
 else if b = 72 then (if l = [50] then { A with gr := true } else if l = [51] then { A with gr := false } else A, false)
 else if b = 71 then
  (match bitsW (l[0]?.getD 0).toNat with
   | none => A
   | some a => if A.emb = true then putW A 32 (a + 1) 0 else { A with attr := a }, false)
 else oneW (modesW A b.toNat) b.toNat
def restW (A : Wy) (back : Bool) : Wy := if A.pr = true ∧ (atD A.S.D A.S.pl.at_).gd = true then { A with S := freeS A.S (if back = true then -1 else 1) } else A
def statusW (l : List UInt8) : Bool := Go.Lib.hasPrefix l [27, 70]
def takeD (A : Wy) (b : UInt8) : Wy × Bool :=
 if b = 27 ∧ statusW A.seq = false then ({ A with seq := [27] }, false)
 else match A.seq ++ [b] with
  | [] => (A, false)
  | [_] => groundW A b.toNat
  | _ :: c :: l => if waitsW c l = true then ({ A with seq := if 64 < (A.seq ++ [b]).length then [] else A.seq ++ [b] }, false) else endW { A with seq := [] } c l
def takeW (A : Wy) (b : UInt8) : Wy := restW (takeD A b).1 (takeD A b).2
def feedW (A : Wy) : List UInt8 → Wy
 | [] => A
 | b :: l => feedW (takeW A b) l
theorem feedW_append (A : Wy) (l m : List UInt8) : feedW A (l ++ m) = feedW (feedW A l) m := by
 induction l generalizing A with
 | nil => rfl
 | cons b l ih => exact ih _
def newW (most R C : Nat) : Wy := ⟨most, newS R C, [], false, false, false, false, false, false, 0, [], []⟩
theorem pushW_S (A : Wy) (l : List UInt8) : (pushW A l).S = A.S := by
 unfold pushW
 split <;> rfl
end
section
def RcD (D D' : Vz.Gd) : Prop := D'.R = D.R ∧ D'.C = D.C
theorem RcD.refl (D : Vz.Gd) : RcD D D := ⟨rfl, rfl⟩
theorem RcD.trans {A B C : Vz.Gd} (h : RcD A B) (k : RcD B C) : RcD A C := ⟨k.1.trans h.1, k.2.trans h.2⟩
theorem RcD.from_ {c : Vz.Cl} {D D' : Vz.Gd} (h : FromD c D D') : RcD D D' := ⟨h.R, h.C⟩
theorem RcD.of_eq {D D' : Vz.Gd} (h : D' = D) : RcD D D' := h ▸ RcD.refl D
theorem ftabS_D (S : Vz.Sr) : (ftabS S).D = S.D := by
 unfold ftabS
 split <;> rfl
theorem tabW_D (A : Wy) : (tabW A).S.D = A.S.D := by
 unfold tabW
 simp only
 split
 · exact ftabS_D _
 · exact tabS_D _ _
theorem RcD.putW (A : Wy) (g m a : Int) : RcD A.S.D (putW A g m a).S.D := by
 unfold Go.Proofs.YteoeooijpjehpaaGreatDoor.putW
 simp only
 split
 · exact (RcD.from_ (FromD.chars Vz.Cl.blank A.S.D _ _ 1 A.pr)).trans (RcD.from_ (FromD.putAny (charsS A.S 1 Vz.Cl.blank A.pr) _ _))
 · exact RcD.from_ (FromD.putAny A.S _ _)
theorem RcD.ground (A : Wy) (b : Nat) : RcD A.S.D (groundW A b).1.S.D := by
 unfold groundW
 repeat' refine ite_P (P := fun x : Wy × Bool => RcD A.S.D x.1.S.D) (fun _ => ?_) (fun _ => ?_)
 all_goals first
  | exact RcD.refl _
  | exact RcD.of_eq (congrArg Vz.Sr.D (pushW_S A _))
  | exact RcD.of_eq (tabW_D A)
  | exact RcD.from_ (FromD.clear Vz.Cl.blank _ _)
  | exact RcD.from_ (FromD.lfeed Vz.Cl.blank _ _)
  | exact RcD.putW A _ _ _
theorem RcD.one (A : Wy) (b : Nat) : RcD A.S.D (oneW A b).1.S.D := by
 unfold oneW
 repeat' refine ite_P (P := fun x : Wy × Bool => RcD A.S.D x.1.S.D) (fun _ => ?_) (fun _ => ?_)
 all_goals first
  | exact RcD.refl _
  | exact RcD.of_eq (congrArg Vz.Sr.D (pushW_S A _))
  | exact RcD.of_eq (tabS_D _ _)
  | exact RcD.of_eq (stopS_D _ _ _)
  | exact RcD.of_eq (stopsS_D _ _)
  | exact RcD.from_ (FromD.clear Vz.Cl.blank _ _)
  | exact RcD.from_ (FromD.partS Vz.Cl.blank _ _ _)
  | exact RcD.from_ (FromD.lines Vz.Cl.blank _ _ _ _)
  | exact RcD.from_ (FromD.chars Vz.Cl.blank _ _ _ _ _)
  | (show RcD A.S.D (if A.pr = true then stepS A.S (-1) 0 else feedS A.S (-1)).D
     split
     · exact RcD.refl _
     · exact RcD.from_ (FromD.feed Vz.Cl.blank _ _))
theorem modesW_S (A : Wy) (b : Nat) : (modesW A b).S = A.S := by
 unfold modesW
 repeat' split
 all_goals rfl
theorem goesW_D (A : Wy) (r c : Int) : (goesW A r c).S.D = A.S.D := by
 unfold goesW
 split <;> rfl
theorem RcD.end_ (A : Wy) (b : UInt8) (l : List UInt8) : RcD A.S.D (endW A b l).1.S.D := by
 unfold endW
 split
 · exact RcD.of_eq (goesW_D A _ _)
 · split
   · show RcD A.S.D (if _ then _ else _ : Wy).S.D
     split
     · exact RcD.of_eq (goesW_D A _ _)
     · exact RcD.refl _
   · split
     · exact RcD.refl _
     · split
       · show RcD A.S.D (if l = [50] then { A with gr := true } else if l = [51] then { A with gr := false } else A : Wy).S.D
         split
         · exact RcD.refl _
         · split <;> exact RcD.refl _
       · split
         · simp only
           split
           · exact RcD.refl _
           · split
             · exact RcD.putW A _ _ _
             · exact RcD.refl _
         · have := RcD.one (modesW A b.toNat) b.toNat
           rw [modesW_S] at this
           exact this
theorem restW_D (A : Wy) (b : Bool) : (restW A b).S.D = A.S.D := by
 unfold restW
 split
 · exact freeS_D _ _
 · rfl
theorem RcD.takeD (A : Wy) (b : UInt8) : RcD A.S.D (takeD A b).1.S.D := by
 unfold Go.Proofs.YteoeooijpjehpaaGreatDoor.takeD
 split
 · exact RcD.refl _
 · split
   · exact RcD.refl _
   · exact RcD.ground A b.toNat
   · split
     · exact RcD.refl _
     · exact RcD.end_ { A with seq := [] } _ _
theorem RcD.take (A : Wy) (b : UInt8) : RcD A.S.D (takeW A b).S.D := by
 unfold takeW
 rw [restW_D]
 exact RcD.takeD A b
/-! ### What stays of the terminal -/
/-! ### Guarded cells -/
theorem KeptG.putW (A : Wy) (g m a : Int) (h : A.pr = true) : KeptG A.S.D (putW A g m a).S.D := by
 unfold Go.Proofs.YteoeooijpjehpaaGreatDoor.putW
 rw [h]
 simp only
 split
 · exact (KeptG.chars A.S.D _ _ 1 Vz.Cl.blank).trans (KeptG.putAny (charsS A.S 1 Vz.Cl.blank true) _)
 · exact KeptG.putAny A.S _
end
end Go.Proofs.YteoeooijpjehpaaGreatDoor
