import Derived.Test.YtmgeghoalmonoaaGreatDoorRK
import Derived.Test.YtmgeghoalmonoaaGreatDoorRJ
import Derived.Test.YtmgeghoalmonoaaGreatDoorRP
import Derived.Test.YtmgeghoalmonoaaGreatDoorRM
import Derived.Test.YtmgeghoalmonoaaGreatDoorRS
import Derived.Test.YtmgeghoalmonoaaGreatDoorRO
import Derived.Lib.ItoaNum

/- What ANSI.SYS does, in plain terms. -/
namespace Go.Proofs.YtmgeghoalmonoaaGreatDoor
open Go.RowKit
set_option linter.unusedSimpArgs false
set_option linter.unusedVariables false

/-- ANSI.SYS on a screen and a queue of so many bytes. -/
structure An where
 S : Vz.Sr
 q : List UInt8
 over : Bool
 most : Nat
 attr : Int
 wrap : Bool
 sv : Vz.Ps
 st : Int
 body : List UInt8
 lost : Nat
 quo : UInt8
def dropN (A : An) : An := { A with st := 0, quo := 0, body := [], lost := 0 }
def moveN (A : An) (p : Vz.Ps) : An := { A with S := { A.S with pl := ⟨Vz.nearP A.S.D.R A.S.D.C p, false⟩ } }
def stepN (A : An) (a b : Int) : An := { A with S := { A.S with pl := Vz.stepP A.S.D.R A.S.D.C A.S.pl a b } }
def wipeN (A : An) (p q : Vz.Ps) (at_ : Int) : An := { A with S := { A.S with D := wipeD A.S.D (Vz.nearP A.S.D.R A.S.D.C p) (Vz.nearP A.S.D.R A.S.D.C q) ⟨32, at_, false, 0⟩ false } }
def putC (A : An) (b : UInt8) : An := { A with S := putS A.S ⟨cpG b.toNat, A.attr, false, 0⟩ (if A.wrap = true then 2 else 1) }
def endP (A : An) : Vz.Ps := ⟨(A.S.D.R : Int) - 1, (A.S.D.C : Int) - 1⟩
def tabI (A : An) : Int := min (A.S.pl.at_.col - A.S.pl.at_.col.tmod 8 + 8) ((A.S.D.C : Int) - 1)
/-- A byte outside of sequences. -/
def plainN (A : An) (b : UInt8) : An :=
 if b = 7 then A
 else if b = 8 then stepN A 0 (-1)
 else if b = 9 then moveN A ⟨A.S.pl.at_.row, tabI A⟩
 else if b = 10 then { A with S := feedS A.S 1 }
 else if b = 13 then moveN A ⟨A.S.pl.at_.row, 0⟩
 else if b = 27 then { A with st := 1 }
 else putC A b
/-- A byte that a buffer takes. -/
def bodyN (A : An) (b : UInt8) : An := if A.body.length < 61 then { A with body := A.body ++ [b] } else { A with lost := A.lost + 1 }
/-- A number, or another one if it is not told. -/
def orN (l : List Int) (i : Nat) (d : Int) : Int := if i < l.length ∧ 0 ≤ l[i]?.getD 0 then l[i]?.getD 0 else d
def pushN (A : An) (l : List UInt8) : An := { A with q := pushQ A.most A.q l, over := pushO A.most A.q l A.over }
def replyN (r c : Int) : List UInt8 := [27, 91] ++ Lib.decDigits (r + 1).toNat ++ [59] ++ Lib.decDigits (c + 1).toNat ++ [82]
/-- What is done of numbers. -/
def doN (A : An) (b : UInt8) (l : List Int) : An :=
 if b = 65 then stepN A (-1 * max (orN l 0 1) 1) 0
 else if b = 66 then stepN A (max (orN l 0 1) 1) 0
 else if b = 67 then stepN A 0 (max (orN l 0 1) 1)
 else if b = 68 then stepN A 0 (-1 * max (orN l 0 1) 1)
 else if b = 72 ∨ b = 102 then moveN A ⟨max (orN l 0 1) 1 - 1, max (orN l 1 1) 1 - 1⟩
 else if b = 74 then (if orN l 0 0 = 2 then moveN (wipeN A ⟨0, 0⟩ (endP A) A.attr) ⟨0, 0⟩ else A)
 else if b = 75 then wipeN A A.S.pl.at_ ⟨A.S.pl.at_.row, (endP A).col⟩ A.attr
 else if b = 109 then { A with attr := applyN A.attr (l.map fun x => max x 0) }
 else if b = 115 then { A with sv := A.S.pl.at_ }
 else if b = 117 then moveN A A.sv
 else if b = 110 then (if orN l 0 0 = 6 then pushN A (replyN A.S.pl.at_.row A.S.pl.at_.col) else A)
 else A
/-- What a sequence does. -/
def endN (A : An) (b : UInt8) (body : List UInt8) : An :=
 if b = 104 then (if body = [61, 55] ∨ body = [63, 55] then { A with wrap := true } else A)
 else if b = 108 then (if body = [61, 55] ∨ body = [63, 55] then { A with wrap := false } else A)
 else if b = 112 then A
 else if (Vz.numbers body).2 = true then doN A b (Vz.numbers body).1
 else A
/-- A byte of a sequence. -/
def seqN (A : An) (b : UInt8) : An :=
 if ¬ A.quo = 0 then bodyN (if b = A.quo then { A with quo := 0 } else A) b
 else if b = 34 ∨ b = 39 then bodyN { A with quo := b } b
 else if 64 ≤ b.toNat ∧ b.toNat ≤ 126 then (if 0 < A.lost then dropN A else endN (dropN A) b A.body)
 else bodyN A b
def takeN (A : An) (b : UInt8) : An :=
 if b = 27 then { dropN A with st := 1 }
 else if A.st = 1 ∧ b = 91 then { A with st := 2 }
 else if A.st = 2 then seqN A b
 else plainN { A with st := 0 } b
def feedN (A : An) : List UInt8 → An
 | [] => A
 | b :: l => feedN (takeN A b) l
theorem feedN_append (A : An) (l m : List UInt8) : feedN A (l ++ m) = feedN (feedN A l) m := by
 induction l generalizing A with
 | nil => rfl
 | cons b l ih => exact ih _
def newN (R C M : Nat) : An := ⟨newS R C, [], false, M, 0, true, ⟨0, 0⟩, 0, [], 0, 0⟩
/-- What is pending. -/
def pendN (A : An) : List UInt8 := if A.st = 0 then [] else if A.st = 1 then [27] else [27, 91] ++ A.body
end Go.Proofs.YtmgeghoalmonoaaGreatDoor
