import Derived.Test.YtncgigapgklhcaaGreatDoorHM
import Derived.Test.YtncgigapgklhcaaGreatDoorHN
import Derived.Test.YtncgigapgklhcaaGreatDoorHP
import Derived.Test.YtncgigapgklhcaaGreatDoorHR
import Derived.Test.YtncgigapgklhcaaGreatDoorHZ
import Derived.Test.YtncgigapgklhcaaGreatDoorHA
import Derived.Test.YtncgigapgklhcaaGreatDoorProg
import Derived.WalkKit

set_option maxRecDepth 100000
set_option maxHeartbeats 16000000
namespace Go.Proofs.YtncgigapgklhcaaGreatDoor
open Go.RowKit
set_option linter.unusedSimpArgs false
set_option linter.unusedVariables false
/- The model of an ADM-3A on a screen: what each byte does. -/
section
structure Ad where
 S : Vz.Sr
 q : List UInt8
 over : Bool
 gd : Bool
 pr : Bool
 attr : Int
 seq : List UInt8
def moveS (S : Vz.Sr) (p : Vz.Ps) : Vz.Sr := { S with pl := ⟨Vz.nearP S.D.R S.D.C p, false⟩ }
def stepS (S : Vz.Sr) (a b : Int) : Vz.Sr := { S with pl := Vz.stepP S.D.R S.D.C S.pl a b }
def partS (S : Vz.Sr) (k : Int) (c : Vz.Cl) (g : Bool) : Vz.Sr := { S with D := partD S k c g }
def linesS (S : Vz.Sr) (n : Int) (c : Vz.Cl) (g : Bool) : Vz.Sr := { S with D := linesD S.D S.pl.at_.row.toNat n c g }
def charsS (S : Vz.Sr) (n : Int) (c : Vz.Cl) (g : Bool) : Vz.Sr := { S with D := charsD S.D S.pl.at_.row.toNat S.pl.at_.col.toNat n c g }
def putAny (S : Vz.Sr) (c : Vz.Cl) (g : Bool) : Vz.Sr := if g = true then putGS S c else putS S c 2
def columnS (S : Vz.Sr) (c : Int) : Vz.Sr := moveS S ⟨S.pl.at_.row, c⟩
def lfeedS (S : Vz.Sr) (g : Bool) : Vz.Sr := if g = false then feedS S 1 else if S.pl.at_.row = (S.D.R : Int) - 1 then moveS S ⟨0, S.pl.at_.col⟩ else stepS S 1 0
def clearS (S : Vz.Sr) (g : Bool) : Vz.Sr := moveS (partS S 1 Vz.Cl.blank g) ⟨0, 0⟩
def pushA (A : Ad) (l : List UInt8) : Ad := if 20 < A.q.length + l.length then { A with over := true } else { A with q := A.q ++ l }
def foldG (b : Nat) : Int := if 97 ≤ b ∧ b ≤ 122 then (b : Int) - 32 else (b : Int)
def cellA (A : Ad) (b : Nat) : Vz.Cl := ⟨foldG b, A.attr, A.gd, 0⟩
def groundA (A : Ad) (b : Nat) : Ad × Bool :=
 if b = 5 then (pushA A [65, 68, 77, 13], false)
 else if b = 8 then ({ A with S := stepS A.S 0 (-1) }, true)
 else if b = 9 then ({ A with S := tabS A.S 1 }, false)
 else if b = 11 then ({ A with S := stepS A.S (-1) 0 }, true)
 else if b = 12 then ({ A with S := stepS A.S 0 1 }, false)
 else if b = 13 then ({ A with S := columnS A.S 0 }, false)
 else if b = 26 then ({ A with S := clearS A.S A.pr }, false)
 else if b = 30 then ({ A with S := moveS A.S ⟨0, 0⟩ }, false)
 else if b = 31 then ({ A with S := lfeedS (columnS A.S 0) A.pr }, false)
 else if b = 10 then ({ A with S := lfeedS A.S A.pr }, false)
 else if 32 ≤ b ∧ b ≤ 126 then ({ A with S := putAny A.S (cellA A b) A.pr }, false)
 else (A, false)
def toldA (n : Int) : UInt8 := UInt8.ofNat (min (n + 32) 126).toNat
def oneA (A : Ad) (b : Nat) : Ad × Bool :=
 if b = 42 then ({ A with gd := false, pr := false, S := clearS A.S false }, false)
 else if b = 43 ∨ b = 59 ∨ b = 58 then ({ A with S := clearS A.S A.pr }, false)
 else if b = 84 ∨ b = 116 then ({ A with S := partS A.S 5 Vz.Cl.blank A.pr }, false)
 else if b = 89 ∨ b = 121 then ({ A with S := partS A.S 2 Vz.Cl.blank A.pr }, false)
 else if b = 69 then ({ A with S := linesS (columnS A.S 0) 1 Vz.Cl.blank A.pr }, false)
 else if b = 82 then ({ A with S := linesS (columnS A.S 0) (-1) Vz.Cl.blank A.pr }, false)
 else if b = 81 then ({ A with S := charsS A.S 1 Vz.Cl.blank A.pr }, false)
 else if b = 87 then ({ A with S := charsS A.S (-1) Vz.Cl.blank A.pr }, false)
 else if b = 40 ∨ b = 41 then ({ A with gd := decide (b = 41) }, false)
 else if b = 38 ∨ b = 39 then ({ A with pr := decide (b = 38) }, false)
 else if b = 49 ∨ b = 50 then ({ A with S := stopS A.S A.S.pl.at_.col (decide (b = 49)) }, false)
 else if b = 51 then ({ A with S := stopsS A.S 0 }, false)
 else if b = 105 then ({ A with S := tabS A.S 1 }, false)
 else if b = 73 then ({ A with S := tabS A.S (-1) }, true)
 else if b = 106 then ({ A with S := if A.pr = true then stepS A.S (-1) 0 else feedS A.S (-1) }, true)
 else if b = 63 then (pushA A [toldA A.S.pl.at_.row, toldA A.S.pl.at_.col, 13], false)
 else (A, false)
def dyesI (n : Nat) : Int := (if n % 2 = 1 then 32 else 0) + (if n / 2 % 2 = 1 then 8 else 0) + (if n / 4 % 2 = 1 then 16 else 0) + (if n / 8 % 2 = 1 then 4 else 0)
def dyesA (A : Ad) (b : Nat) : Ad := if b < 48 ∨ 63 < b then A else { A with attr := dyesI (b - 48) }
def addrA (A : Ad) (r c : Int) : Ad := if 0 ≤ r ∧ r < (A.S.D.R : Int) ∧ 0 ≤ c ∧ c < (A.S.D.C : Int) then { A with S := moveS A.S ⟨r, c⟩ } else A
def endA (A : Ad) (l : List UInt8) : Ad × Bool :=
 match l with
 | [] => (A, false)
 | x :: l => if x = 61 then (addrA A ((l[0]?.getD 0).toNat - 32) ((l[1]?.getD 0).toNat - 32), false) else if x = 71 then (dyesA A (l[0]?.getD 0).toNat, false) else oneA A x.toNat
def restA (A : Ad) (back : Bool) : Ad := if A.pr = true ∧ (atD A.S.D A.S.pl.at_).gd = true then { A with S := freeS A.S (if back = true then -1 else 1) } else A
def takeC (A : Ad) (b : UInt8) : Ad × Bool :=
 if b = 27 then ({ A with seq := [27] }, false)
 else if A.seq.length = 0 then groundA A b.toNat
 else if (A.seq.length = 1 ∧ (b = 61 ∨ b = 71)) ∨ (A.seq.length = 2 ∧ A.seq[1]? = some 61) then ({ A with seq := A.seq ++ [b] }, false)
 else endA { A with seq := [] } (A.seq ++ [b]).tail
def takeA (A : Ad) (b : UInt8) : Ad := restA (takeC A b).1 (takeC A b).2
def feedA (A : Ad) : List UInt8 → Ad
 | [] => A
 | b :: l => feedA (takeA A (b % 128)) l
theorem feedA_append (A : Ad) (l m : List UInt8) : feedA A (l ++ m) = feedA (feedA A l) m := by
 induction l generalizing A with
 | nil => rfl
 | cons b l ih => exact ih _
def okSeq (l : List UInt8) : Prop := l = [] ∨ l = [27] ∨ l = [27, 61] ∨ l = [27, 71] ∨ ∃ x, l = [27, 61, x]
def newA (R C : Nat) : Ad := ⟨newS R C, [], false, false, false, 0, []⟩
theorem pushA_S (A : Ad) (l : List UInt8) : (pushA A l).S = A.S := by
 unfold pushA
 split <;> rfl
theorem pushA_seq (A : Ad) (l : List UInt8) : (pushA A l).seq = A.seq := by
 unfold pushA
 split <;> rfl
theorem pushA_len (A : Ad) (l : List UInt8) (h : A.q.length ≤ 20) : (pushA A l).q.length ≤ 20 := by
 unfold pushA
 split
 · exact h
 · simp only [List.length_append]
   omega
end
section
def termB (sp qp : Nat) (gd pr : Bool) (attr : Int) (V : Value) : Array Value := #[.pointer (some ⟨sp, 0, none⟩), .pointer (some ⟨qp, 0, none⟩), .bool gd, .bool pr, .int .i64 attr, V]
def footV (V : Value) (k : Nat) : Prop := V.ownBlock = some k
structure TermAt (W : World) (tp sp qp lb fr : Nat) (F : Nat → Prop) (V : Value) (A : Ad) : Prop where
 box : W.heap[tp]? = some (.cells (termB sp qp A.gd A.pr A.attr V) 87 (0, 0))
 own : W.ownsRow 0 5 1 V A.seq.length (bytesV A.seq)
 scr : Scr W sp F A.S
 que : QueAt W qp lb fr A.q A.over
 ok : okSeq A.seq
 ntp : ¬ F tp
 nqp : ¬ F qp
 nlb : ¬ F lb
 nv : ∀ k, footV V k → ¬ F k ∧ k ≠ tp ∧ k ≠ qp ∧ k ≠ lb
 tq : tp ≠ qp
 tl : tp ≠ lb
 nbl : ∀ k, k = tp ∨ k = qp ∨ k = lb ∨ footV V k → k ≠ 0
def footT (tp qp lb : Nat) (F : Nat → Prop) (V : Value) (k : Nat) : Prop := k = tp ∨ k = qp ∨ k = lb ∨ footV V k ∨ F k
def Term (W : World) (tp sp qp : Nat) (FT : Nat → Prop) (A : Ad) : Prop := ∃ lb fr F V, TermAt W tp sp qp lb fr F V A ∧ ∀ k, FT k ↔ footT tp qp lb F V k
theorem own_kept {W W' : World} {base : Nat} {e : TypeId} {size n : Nat} {V : Value} {xs : List Value} (h : W.ownsRow base e size V n xs) (hk : ∀ k, footV V k → W'.heap[k]? = W.heap[k]?) : W'.ownsRow base e size V n xs := by
 obtain ⟨hl, h⟩ := h
 refine ⟨hl, ?_⟩
 rcases h with h | ⟨g, cap, cur, rfl, hb, hg, rest⟩
 · exact .inl h
 · exact .inr ⟨g, cap, cur, rfl, hb, (hk g rfl).trans hg, rest⟩
theorem own_foot_lt {W : World} {base : Nat} {e : TypeId} {size n : Nat} {V : Value} {xs : List Value} (h : W.ownsRow base e size V n xs) {k : Nat} (hk : footV V k) : k < W.heap.size := by
 obtain ⟨hl, h⟩ := h
 rcases h with ⟨rfl, _⟩ | ⟨g, cap, cur, rfl, hb, hg, rest⟩
 · cases hk
 · cases hk
   exact block_lt hg
theorem TermAt.of_blocks {W W' : World} {tp sp qp lb fr : Nat} {F : Nat → Prop} {V : Value} {A : Ad} (h : TermAt W tp sp qp lb fr F V A) (e : ∀ k, footT tp qp lb F V k → W'.heap[k]? = W.heap[k]?) (hs : Scr W' sp F A.S) : TermAt W' tp sp qp lb fr F V A :=
 ⟨(e _ (.inl rfl)).trans h.box, own_kept h.own fun k hk => e k (.inr (.inr (.inr (.inl hk)))), hs, h.que.of_blocks (e _ (.inr (.inl rfl))) (e _ (.inr (.inr (.inl rfl)))), h.ok, h.ntp, h.nqp, h.nlb, h.nv, h.tq, h.tl, h.nbl⟩
theorem TermAt.lt {W : World} {tp sp qp lb fr : Nat} {F : Nat → Prop} {V : Value} {A : Ad} (h : TermAt W tp sp qp lb fr F V A) {k : Nat} (hk : footT tp qp lb F V k) : k < W.heap.size := by
 rcases hk with rfl | rfl | rfl | hk | hk
 · exact block_lt h.box
 · exact h.que.lt.1
 · exact h.que.lt.2
 · exact own_foot_lt h.own hk
 · exact h.scr.lt k hk
theorem TermAt.below {W W' : World} {tp sp qp lb fr : Nat} {F : Nat → Prop} {V : Value} {A : Ad} (h : TermAt W tp sp qp lb fr F V A) (hb : Below W.heap.size W W') : TermAt W' tp sp qp lb fr F V A :=
 h.of_blocks (fun k hk => hb.block k (h.lt hk)) (h.scr.below hb)
theorem Term.lt {W : World} {tp sp qp : Nat} {FT : Nat → Prop} {A : Ad} (h : Term W tp sp qp FT A) : ∀ k, FT k → k < W.heap.size := by
 obtain ⟨lb, fr, F, V, h, hF⟩ := h
 exact fun k hk => h.lt ((hF k).1 hk)
theorem Term.below {W W' : World} {tp sp qp : Nat} {FT : Nat → Prop} {A : Ad} (h : Term W tp sp qp FT A) (hb : Below W.heap.size W W') : Term W' tp sp qp FT A := by
 obtain ⟨lb, fr, F, V, h, hF⟩ := h
 exact ⟨lb, fr, F, V, h.below hb, hF⟩
theorem Term.blk {W : World} {tp sp qp : Nat} {FT : Nat → Prop} {A : Ad} (h : Term W tp sp qp FT A) : Blanked W ∧ ∀ k, FT k → k ≠ 0 := by
 obtain ⟨lb, fr, F, V, h, hF⟩ := h
 refine ⟨h.scr.blk.1, fun k hk => ?_⟩
 rcases (hF k).1 hk with hk | hk | hk | hk | hk
 · exact h.nbl k (.inl hk)
 · exact h.nbl k (.inr (.inl hk))
 · exact h.nbl k (.inr (.inr (.inl hk)))
 · exact h.nbl k (.inr (.inr (.inr hk)))
 · exact h.scr.blk.2 k hk
theorem Term.keeps {W W' : World} {tp sp qp : Nat} {FT K : Nat → Prop} {A : Ad} (h : Term W tp sp qp FT A) (hk : Keeps K W W') (hd : ∀ k, FT k → ¬ K k) (hb : ¬ K 0) : Term W' tp sp qp FT A := by
 have hlt := h.lt
 obtain ⟨lb, fr, F, V, h, hF⟩ := h
 have he : ∀ k, footT tp qp lb F V k → W'.heap[k]? = W.heap[k]? := fun k hf => hk.block k (h.lt hf) (hd k ((hF k).2 hf))
 refine ⟨lb, fr, F, V, h.of_blocks he ?_, hF⟩
 obtain ⟨gp, tp', mb, FG, hA, hG⟩ := h.scr
 exact ⟨gp, tp', mb, FG, hA.of_blocks (fun k hf => he k (.inr (.inr (.inr (.inr ((hG k).2 hf)))))) (hk.block _ hA.blk.lt hb), hG⟩
def TermTo (w w' : World) (tp sp qp : Nat) (FT : Nat → Prop) (A' : Ad) : Prop := (∃ F', Term w' tp sp qp F' A' ∧ ∀ k, F' k → FT k ∨ w.heap.size ≤ k) ∧ Keeps FT w w'
theorem TermTo.refl {w : World} {tp sp qp : Nat} {F : Nat → Prop} {A : Ad} (h : Term w tp sp qp F A) : TermTo w w tp sp qp F A := ⟨⟨F, h, fun k hk => .inl hk⟩, Keeps.refl F w⟩
theorem TermTo.after {w w1 w2 : World} {tp sp qp : Nat} {F : Nat → Prop} {A' : Ad} (hb : Below w.heap.size w w1) (h : TermTo w1 w2 tp sp qp F A') : TermTo w w2 tp sp qp F A' := by
 obtain ⟨⟨F', h1, h2⟩, h3⟩ := h
 exact ⟨⟨F', h1, fun k hk => (h2 k hk).imp id fun hk => Nat.le_trans hb.size hk⟩, (Keeps.of_below hb).trans h3 fun k hk => .inl hk⟩
theorem TermTo.later {w w1 w2 : World} {tp sp qp : Nat} {F : Nat → Prop} {A' : Ad} (h : TermTo w w1 tp sp qp F A') (hb : Below w1.heap.size w1 w2) : TermTo w w2 tp sp qp F A' := by
 obtain ⟨⟨F', h1, h2⟩, h3⟩ := h
 exact ⟨⟨F', h1.below hb, h2⟩, h3.trans (Keeps.of_below hb : Keeps F w1 w2) fun k hk => .inl hk⟩
theorem TermTo.link {w w1 w2 : World} {tp sp qp : Nat} {F F1 : Nat → Prop} {A2 : Ad} (hF : ∀ k, F1 k → F k ∨ w.heap.size ≤ k) (hK : Keeps F w w1) (h : TermTo w1 w2 tp sp qp F1 A2) : TermTo w w2 tp sp qp F A2 := by
 obtain ⟨⟨F'', h4, h5⟩, h6⟩ := h
 refine ⟨⟨F'', h4, fun k hk => ?_⟩, hK.trans h6 hF⟩
 rcases h5 k hk with hk | hk
 · exact hF k hk
 · exact .inr (Nat.le_trans hK.size hk)
theorem TermTo.trans {w w1 w2 : World} {tp sp qp : Nat} {F : Nat → Prop} {A1 A2 : Ad} (h : TermTo w w1 tp sp qp F A1) (h' : ∀ F', Term w1 tp sp qp F' A1 → TermTo w1 w2 tp sp qp F' A2) : TermTo w w2 tp sp qp F A2 := by
 obtain ⟨⟨F', h1, h2⟩, h3⟩ := h
 exact TermTo.link h2 h3 (h' F' h1)
theorem TermAt.scrTo {w w' : World} {tp sp qp lb fr : Nat} {F : Nat → Prop} {V : Value} {A : Ad} {S' : Vz.Sr} (h : TermAt w tp sp qp lb fr F V A) (hs : ScrTo w w' sp F S') : ∃ F', TermAt w' tp sp qp lb fr F' V { A with S := S' } ∧ (∀ k, F' k → F k ∨ w.heap.size ≤ k) ∧ Keeps F w w' := by
 obtain ⟨⟨F', h1, h2⟩, hK⟩ := hs
 have hn : ∀ k, k < w.heap.size → ¬ F k → ¬ F' k := fun k hk hf hf' => by
  rcases h2 k hf' with h | h
  · exact hf h
  · omega
 have ht := block_lt h.box
 obtain ⟨hq, hl⟩ := h.que.lt
 refine ⟨F', ⟨(hK.block _ ht h.ntp).trans h.box, own_kept h.own fun k hk => hK.block _ (own_foot_lt h.own hk) (h.nv k hk).1, h1, h.que.of_blocks (hK.block _ hq h.nqp) (hK.block _ hl h.nlb), h.ok, hn _ ht h.ntp, hn _ hq h.nqp, hn _ hl h.nlb, fun k hk => ⟨hn _ (own_foot_lt h.own hk) (h.nv k hk).1, (h.nv k hk).2⟩, h.tq, h.tl, h.nbl⟩, h2, hK⟩
theorem Term.scrTo {w w' : World} {tp sp qp lb fr : Nat} {F FT : Nat → Prop} {V : Value} {A : Ad} {S' : Vz.Sr} (h : TermAt w tp sp qp lb fr F V A) (hF : ∀ k, FT k ↔ footT tp qp lb F V k) (hs : ScrTo w w' sp F S') : TermTo w w' tp sp qp FT { A with S := S' } := by
 obtain ⟨F', h1, h2, h3⟩ := h.scrTo hs
 refine ⟨⟨footT tp qp lb F' V, ⟨lb, fr, F', V, h1, fun k => Iff.rfl⟩, fun k hk => ?_⟩, h3.mono fun k hk => (hF k).2 (.inr (.inr (.inr (.inr hk))))⟩
 rcases hk with rfl | rfl | rfl | hk | hk
 · exact .inl ((hF _).2 (.inl rfl))
 · exact .inl ((hF _).2 (.inr (.inl rfl)))
 · exact .inl ((hF _).2 (.inr (.inr (.inl rfl))))
 · exact .inl ((hF _).2 (.inr (.inr (.inr (.inl hk)))))
 · exact (h2 k hk).imp (fun h => (hF _).2 (.inr (.inr (.inr (.inr h))))) id
theorem Term.queTo {w w' : World} {tp sp qp lb fr : Nat} {F FT : Nat → Prop} {V : Value} {A : Ad} {q : List UInt8} {over : Bool} (h : TermAt w tp sp qp lb fr F V A) (hF : ∀ k, FT k ↔ footT tp qp lb F V k) (hs : QueTo w w' qp lb q over) : TermTo w w' tp sp qp FT { A with q := q, over := over } := by
 obtain ⟨⟨fr', h1⟩, hK⟩ := hs
 have ht := block_lt h.box
 have hbn : ¬ (0 = qp ∨ 0 = lb) := by
  rintro (e | e)
  · exact h.nbl _ (.inr (.inl rfl)) e.symm
  · exact h.nbl _ (.inr (.inr (.inl rfl))) e.symm
 have hscr : Scr w' sp F A.S := by
  obtain ⟨gp, tp', mb, FG, hA, hG⟩ := h.scr
  refine ⟨gp, tp', mb, FG, hA.of_blocks (fun k hf => hK.block _ (hA.lt hf) ?_) (hK.block _ hA.blk.lt hbn), hG⟩
  rintro (rfl | rfl)
  · exact h.nqp ((hG _).2 hf)
  · exact h.nlb ((hG _).2 hf)
 refine ⟨⟨FT, ⟨lb, fr', F, V, ⟨(hK.block _ ht ?_).trans h.box, own_kept h.own fun k hk => hK.block _ (own_foot_lt h.own hk) ?_, hscr, h1, h.ok, h.ntp, h.nqp, h.nlb, h.nv, h.tq, h.tl, h.nbl⟩, hF⟩, fun k hk => .inl hk⟩, hK.mono ?_⟩
 · rintro (e | e)
   · exact h.tq e
   · exact h.tl e
 · rintro (e | e)
   · exact (h.nv k hk).2.2.1 e
   · exact (h.nv k hk).2.2.2 e
 · rintro k (e | e)
   · exact (hF k).2 (.inr (.inl e))
   · exact (hF k).2 (.inr (.inr (.inl e)))
theorem Term.boxed {w w' : World} {tp sp qp lb fr : Nat} {F FT : Nat → Prop} {V V' : Value} {A : Ad} {gd pr : Bool} {attr : Int} {seq : List UInt8} (h : TermAt w tp sp qp lb fr F V A) (hF : ∀ k, FT k ↔ footT tp qp lb F V k)
 (hbox : w'.heap[tp]? = some (.cells (termB sp qp gd pr attr V') 87 (0, 0))) (hown : w'.ownsRow 0 5 1 V' seq.length (bytesV seq)) (hok : okSeq seq) (hv : ∀ k, footV V' k → footV V k ∨ w.heap.size ≤ k) (hK : Keeps (fun k => k = tp ∨ footV V k) w w') :
 TermTo w w' tp sp qp FT { A with gd := gd, pr := pr, attr := attr, seq := seq } := by
 have hlt : ∀ k, footT tp qp lb F V k → k < w.heap.size := fun k hk => h.lt hk
 have hbn : ¬ (0 = tp ∨ footV V 0) := by
  rintro (e | e)
  · exact h.nbl _ (.inl rfl) e.symm
  · exact h.nbl _ (.inr (.inr (.inr e))) rfl
 have hscr : Scr w' sp F A.S := by
  obtain ⟨gp, tp', mb, FG, hA, hG⟩ := h.scr
  refine ⟨gp, tp', mb, FG, hA.of_blocks (fun k hf => hK.block _ (hA.lt hf) ?_) (hK.block _ hA.blk.lt hbn), hG⟩
  rintro (rfl | e)
  · exact h.ntp ((hG _).2 hf)
  · exact (h.nv k e).1 ((hG _).2 hf)
 have hqn : ¬ (qp = tp ∨ footV V qp) := by
  rintro (e | e)
  · exact h.tq e.symm
  · exact (h.nv _ e).2.2.1 rfl
 have hln : ¬ (lb = tp ∨ footV V lb) := by
  rintro (e | e)
  · exact h.tl e.symm
  · exact (h.nv _ e).2.2.2 rfl
 obtain ⟨hq, hl⟩ := h.que.lt
 have ht := block_lt h.box
 have hblt := h.scr.blk.1.lt
 refine ⟨⟨footT tp qp lb F V', ⟨lb, fr, F, V', ⟨hbox, hown, hscr, h.que.of_blocks (hK.block _ hq hqn) (hK.block _ hl hln), hok, h.ntp, h.nqp, h.nlb, fun k hk => ?_, h.tq, h.tl, fun k hk => ?_⟩, fun k => Iff.rfl⟩, fun k hk => ?_⟩, hK.mono ?_⟩
 · rcases hv k hk with h1 | h1
   · exact h.nv k h1
   · refine ⟨fun hf => by have := h.scr.lt k hf; omega, ?_, ?_, ?_⟩ <;> omega
 · rcases hk with hk | hk | hk | hk
   · exact h.nbl k (.inl hk)
   · exact h.nbl k (.inr (.inl hk))
   · exact h.nbl k (.inr (.inr (.inl hk)))
   · rcases hv k hk with h1 | h1
     · exact h.nbl k (.inr (.inr (.inr h1)))
     · omega
 · rcases hk with hk | hk | hk | hk | hk
   · exact .inl ((hF k).2 (.inl hk))
   · exact .inl ((hF k).2 (.inr (.inl hk)))
   · exact .inl ((hF k).2 (.inr (.inr (.inl hk))))
   · exact (hv k hk).imp (fun h1 => (hF k).2 (.inr (.inr (.inr (.inl h1))))) id
   · exact .inl ((hF k).2 (.inr (.inr (.inr (.inr hk)))))
 · rintro k (e | e)
   · exact (hF k).2 (.inl e)
   · exact (hF k).2 (.inr (.inr (.inr (.inl e))))
theorem row6 {W : World} {g : Nat} {a b c d e f : Value} {t : TypeId} (h : W.heap[g]? = some (.cells #[a, b, c, d, e, f] t (0, 0))) : W.cell? ⟨g, 0, none⟩ = some a ∧ W.cell? ⟨g, 1, none⟩ = some b ∧ W.cell? ⟨g, 2, none⟩ = some c ∧ W.cell? ⟨g, 3, none⟩ = some d ∧ W.cell? ⟨g, 4, none⟩ = some e ∧ W.cell? ⟨g, 5, none⟩ = some f ∧ W.frozen? ⟨g, 2, none⟩ = false ∧ W.frozen? ⟨g, 3, none⟩ = false ∧ W.frozen? ⟨g, 4, none⟩ = false ∧ W.frozen? ⟨g, 5, none⟩ = false :=
 ⟨cell_row h 0, cell_row h 1, cell_row h 2, cell_row h 3, cell_row h 4, cell_row h 5, frozen_row h 2, frozen_row h 3, frozen_row h 4, frozen_row h 5⟩
theorem Term.held {W : World} {tp sp qp : Nat} {FT : Nat → Prop} {A : Ad} (h : Term W tp sp qp FT A) : ∃ lb fr F V, TermAt W tp sp qp lb fr F V A ∧ (∀ k, FT k ↔ footT tp qp lb F V k) ∧ Hid (∀ W', Below W.heap.size W W' → (W'.cell? ⟨tp, 0, none⟩ = some (.pointer (some ⟨sp, 0, none⟩)) ∧ W'.cell? ⟨tp, 1, none⟩ = some (.pointer (some ⟨qp, 0, none⟩)) ∧ W'.cell? ⟨tp, 2, none⟩ = some (.bool A.gd) ∧ W'.cell? ⟨tp, 3, none⟩ = some (.bool A.pr) ∧ W'.cell? ⟨tp, 4, none⟩ = some (.int .i64 A.attr) ∧ W'.cell? ⟨tp, 5, none⟩ = some V ∧ W'.frozen? ⟨tp, 2, none⟩ = false ∧ W'.frozen? ⟨tp, 3, none⟩ = false ∧ W'.frozen? ⟨tp, 4, none⟩ = false ∧ W'.frozen? ⟨tp, 5, none⟩ = false)) ∧ tp < W.heap.size := by
 obtain ⟨lb, fr, F, V, h, hF⟩ := h
 exact ⟨lb, fr, F, V, h, hF, fun W' hb => row6 ((h.below hb).box), block_lt h.box⟩
end
section
attribute [local go_sem] alloc_drewN setCell_drewN World.cell?_alloc_some frozen_alloc_some size_f0 size_f1
structure Adm (w : World) (tp sp qp : Nat) (gd pr : Bool) (attr : Int) (V : Value) (F : Nat → Prop) (S : Vz.Sr) : Prop where
 box : w.heap[tp]? = some (.cells (termB sp qp gd pr attr V) 87 (0, 0))
 scr : Scr w sp F S
 ntp : ¬ F tp
theorem Adm.below {w W : World} {tp sp qp : Nat} {gd pr : Bool} {attr : Int} {V : Value} {F : Nat → Prop} {S : Vz.Sr} (h : Adm w tp sp qp gd pr attr V F S) (hb : Below w.heap.size w W) : Adm W tp sp qp gd pr attr V F S :=
 ⟨(hb.block _ (block_lt h.box)).trans h.box, h.scr.below hb, h.ntp⟩
theorem Adm.cells {w : World} {tp sp qp : Nat} {gd pr : Bool} {attr : Int} {V : Value} {F : Nat → Prop} {S : Vz.Sr} (h : Adm w tp sp qp gd pr attr V F S) : w.cell? ⟨tp, 0, none⟩ = some (.pointer (some ⟨sp, 0, none⟩)) ∧ w.cell? ⟨tp, 1, none⟩ = some (.pointer (some ⟨qp, 0, none⟩)) ∧ w.cell? ⟨tp, 2, none⟩ = some (.bool gd) ∧ w.cell? ⟨tp, 3, none⟩ = some (.bool pr) ∧ w.cell? ⟨tp, 4, none⟩ = some (.int .i64 attr) ∧ w.cell? ⟨tp, 5, none⟩ = some V ∧ w.frozen? ⟨tp, 2, none⟩ = false ∧ w.frozen? ⟨tp, 3, none⟩ = false ∧ w.frozen? ⟨tp, 4, none⟩ = false ∧ w.frozen? ⟨tp, 5, none⟩ = false := row6 h.box
theorem Adm.to {w w' : World} {tp sp qp : Nat} {gd pr : Bool} {attr : Int} {V : Value} {F : Nat → Prop} {S S' : Vz.Sr} (h : Adm w tp sp qp gd pr attr V F S) (ht : ScrTo w w' sp F S') : ∃ F', Adm w' tp sp qp gd pr attr V F' S' ∧ (∀ k, F' k → F k ∨ w.heap.size ≤ k) ∧ Keeps F w w' := by
 obtain ⟨⟨F', h1, h2⟩, hK⟩ := ht
 refine ⟨F', ⟨(hK.block _ (block_lt h.box) h.ntp).trans h.box, h1, fun hf => ?_⟩, h2, hK⟩
 rcases h2 tp hf with h3 | h3
 · exact h.ntp h3
 · have := block_lt h.box
   omega
theorem Adm.seq {w w1 w2 : World} {tp sp qp : Nat} {gd pr : Bool} {attr : Int} {V : Value} {F : Nat → Prop} {S S1 S2 : Vz.Sr} (h : Adm w tp sp qp gd pr attr V F S) (ht : ScrTo w w1 sp F S1) (k : ∀ F', Adm w1 tp sp qp gd pr attr V F' S1 → ScrTo w1 w2 sp F' S2) : ScrTo w w2 sp F S2 := by
 obtain ⟨F', h1, h2, h3⟩ := h.to ht
 exact ScrTo.link h2 h3 (k F' h1)
theorem adm_column {w : World} {tp sp qp : Nat} {gd pr : Bool} {attr : Int} {V : Value} {F : Nat → Prop} {S : Vz.Sr} (h : Adm w tp sp qp gd pr attr V F S) (c : Int) : Calls Tryz.prog 80 #[.pointer (some ⟨tp, 0, none⟩), .int .i64 c] w fun e w' => e = .returned (.tuple #[]) ∧ ScrTo w w' sp F (columnS S c) := by
 have HA := Lib.hid (fun W (hb : Below w.heap.size w W) => h.below hb)
 obtain ⟨t0, _⟩ := h.cells
 have HCU := Lib.hid (scr_cursor sp F S w h.scr)
 clear h
 go_enter Tryz.func80, Tryz.ntmps80
 go_upto_region 1 with (go_at_call 14; refine HCU.out.mono ?_; rintro e w1 ⟨rfl, hb1⟩; have HB1 := Lib.hid hb1; clear hb1)
 have HB2 : Hid (Below w.heap.size w (w1.alloc (.cells #[.int .i64 S.pl.at_.row, .int .i64 S.pl.at_.col] 36)).drew) := (HB1.out.alloc HB1.out.size _).drew
 have HX : Hid ((w1.alloc (.cells #[.int .i64 S.pl.at_.row, .int .i64 S.pl.at_.col] 36)).drew.heap[w1.heap.size]? = some (.cells #[.int .i64 S.pl.at_.row, .int .i64 S.pl.at_.col] 36 (0, 0))) := heap_alloc_new w1 _
 refine wp_region_noPanic ?_
 refine wp_region_k (S := fun W : World => Below w.heap.size w W ∧ W.heap[w1.heap.size]? = some (.cells #[.int .i64 S.pl.at_.row, .int .i64 S.pl.at_.col] 36 (0, 0))) 8 (by kernel_rfl) (⟨HB2.out, HX.out⟩) (fun hHeld => ?_)
 refine kSK 0 hHeld ?_
 refine kSK 1 hHeld ?_
 refine kSK 2 hHeld ?_
 refine kTK (v := ?_) 3 [] hHeld ?y4 ?_
 case y4 => (intro W hSw; obtain ⟨y0, _⟩ := (HA.out _ hSw.1).cells; obtain ⟨p0, p1, _⟩ := row2 hSw.2; go_simp; try with_reducible rfl)
 refine kSK 4 hHeld ?_
 try refine kNK ?_
 refine kTK (v := ?_) 5 [7] hHeld ?y6 ?_
 case y6 => (intro W hSw; obtain ⟨y0, _⟩ := (HA.out _ hSw.1).cells; obtain ⟨p0, p1, _⟩ := row2 hSw.2; go_simp; try with_reducible rfl)
 refine kSK 6 hHeld ?_
 refine kSK 7 hHeld ?_
 try refine kNK ?_
 refine kPK 8 fun KQ hKQ => ?_
 go_simp
 go_at_call 59
 refine (scr_move sp F S ⟨S.pl.at_.row, c⟩ _ (HA.out _ HB2.out).scr).mono ?_
 rintro e w2 ⟨rfl, ht⟩
 have HT := Lib.hid ht
 clear ht
 go_wp2_with fail
 refine hKQ.out _ _ ?_
 clear hKQ KQ
 try refine kNK ?_
 refine wpAnyK_done (by kernel_rfl) ?_ _
 refine NoPanic.normal ?_
 go_wp2_with fail
 go_end0
 exact ⟨rfl, ScrTo.after HB2.out HT.out⟩
theorem adm_cleared {w : World} {tp sp qp : Nat} {gd pr : Bool} {attr : Int} {V : Value} {F : Nat → Prop} {S : Vz.Sr} (h : Adm w tp sp qp gd pr attr V F S) : Calls Tryz.prog 35 #[.pointer (some ⟨tp, 0, none⟩)] w fun e w' => e = .returned (.tuple #[]) ∧ ScrTo w w' sp F (clearS S pr) := by
 have HA := Lib.hid (fun W (hb : Below w.heap.size w W) => h.below hb)
 have H := Lib.hid h
 clear h
 go_enter Tryz.func35, Tryz.ntmps35
 go_upto_region 0 with fail
 have HB : Hid (Below w.heap.size w w.drew) := (Below.refl _ _).drew
 refine wp_region_noPanic ?_
 refine wp_region_k (S := fun W : World => Below w.heap.size w W) 10 (by kernel_rfl) (HB.out) (fun hHeld => ?_)
 refine kSK 0 hHeld ?_
 refine kSK 1 hHeld ?_
 refine kSK 2 hHeld ?_
 refine kTK (v := ?_) 3 [] hHeld ?y4 ?_
 case y4 => (intro W hSw; obtain ⟨y0, y1, y2, y3, _⟩ := (HA.out _ hSw).cells; obtain ⟨g0, g1, g2, g3⟩ := (HA.out _ hSw).scr.blk.1.cells; go_simp; try with_reducible rfl)
 refine kTK (v := ?_) 4 [] hHeld ?y5 ?_
 case y5 => (intro W hSw; obtain ⟨y0, y1, y2, y3, _⟩ := (HA.out _ hSw).cells; obtain ⟨g0, g1, g2, g3⟩ := (HA.out _ hSw).scr.blk.1.cells; go_simp; try with_reducible rfl)
 try refine kNK ?_
 refine kSK 5 hHeld ?_
 refine kSK 6 hHeld ?_
 refine kSK 7 hHeld ?_
 refine kSK 8 hHeld ?_
 refine kTK (v := ?_) 9 [] hHeld ?y10 ?_
 case y10 => (intro W hSw; obtain ⟨y0, y1, y2, y3, _⟩ := (HA.out _ hSw).cells; obtain ⟨g0, g1, g2, g3⟩ := (HA.out _ hSw).scr.blk.1.cells; go_simp; try with_reducible rfl)
 try refine kNK ?_
 refine kPK 10 fun KQ hKQ => ?_
 go_simp
 go_at_call 58
 refine (scr_part sp F S 1 Vz.Cl.blank pr _ (HA.out _ HB.out).scr).mono ?_
 rintro e w1 ⟨rfl, ht⟩
 have HT := Lib.hid (show ScrTo w w1 sp F (partS S 1 Vz.Cl.blank pr) from ScrTo.after HB.out ht)
 clear ht
 go_wp2_with fail
 refine hKQ.out _ _ ?_
 clear hKQ KQ
 try refine kNK ?_
 refine wpAnyK_done (by kernel_rfl) ?_ _
 refine NoPanic.normal ?_
 obtain ⟨F1, ha, hf, hk⟩ := H.out.to HT.out
 have HA1 := Lib.hid ha
 obtain ⟨z0, _⟩ := ha.cells
 clear ha
 go_wp2_with (go_at_call 59; refine (scr_move sp F1 (partS S 1 Vz.Cl.blank pr) ⟨0, 0⟩ _ HA1.out.scr).mono ?_; rintro e w2 ⟨rfl, ht⟩; have HT2 := Lib.hid ht; clear ht)
 go_end0
 exact ⟨rfl, ScrTo.link hf hk HT2.out⟩
end
section
attribute [local go_sem] alloc_drewN setCell_drewN World.cell?_alloc_some frozen_alloc_some size_f0 size_f1
theorem adm_feed {w : World} {tp sp qp : Nat} {gd pr : Bool} {attr : Int} {V : Value} {F : Nat → Prop} {S : Vz.Sr} (h : Adm w tp sp qp gd pr attr V F S) : Calls Tryz.prog 81 #[.pointer (some ⟨tp, 0, none⟩)] w fun e w' => e = .returned (.tuple #[]) ∧ ScrTo w w' sp F (lfeedS S pr) := by
 have HA := Lib.hid (fun W (hb : Below w.heap.size w W) => h.below hb)
 obtain ⟨t0, t1, t2, t3, _⟩ := h.cells
 have HCU := Lib.hid (scr_cursor sp F S w h.scr)
 obtain ⟨m1, m2, m3, m4⟩ := h.scr.here.2
 obtain ⟨q1, q2, q3, q4⟩ := h.scr.here.1
 have hww : IntKind.i64.wrap ((S.D.R : Int) - 1) = (S.D.R : Int) - 1 := wrap_in (by omega) (by omega)
 cases pr
 · clear h
   have HE : Hid (lfeedS S false = feedS S 1) := rfl
   rw [HE.out]
   go_enter Tryz.func81, Tryz.ntmps81
   go_wp2_with (first
    | (go_at_call 14; refine HCU.out.mono ?_; rintro e w1 ⟨rfl, hb1⟩; have HB1 := Lib.hid (hb1.alloc hb1.size (.cells #[.int .i64 S.pl.at_.row, .int .i64 S.pl.at_.col] 36)); obtain ⟨y0, y1, y2, y3, _⟩ := (HA.out _ HB1.out).cells; clear hb1)
    | (go_at_call 105; refine (scr_feed sp F S 1 _ (HA.out _ HB1.out).scr).mono ?_; rintro e w2 ⟨rfl, ht⟩; have HT := Lib.hid (ScrTo.after HB1.out ht); clear ht))
   go_end0
   exact ⟨rfl, HT.out⟩
 · have HSZ := Lib.hid (fun W (hb : Below w.heap.size w W) => scr_size sp F S W (h.below hb).scr)
   have HE : Hid (lfeedS S true = if S.pl.at_.row = (S.D.R : Int) - 1 then moveS S ⟨0, S.pl.at_.col⟩ else stepS S 1 0) := rfl
   rw [HE.out]
   clear h
   go_enter Tryz.func81, Tryz.ntmps81
   go_upto_region 4 with (go_at_call 14; refine HCU.out.mono ?_; rintro e w1 ⟨rfl, hb1⟩; have HB1 := Lib.hid (hb1.alloc hb1.size (.cells #[.int .i64 S.pl.at_.row, .int .i64 S.pl.at_.col] 36)); obtain ⟨y0, y1, y2, y3, _⟩ := (HA.out _ HB1.out).cells; clear hb1)
   clear y0 y1 y2 y3
   have HB2 : Hid (Below w.heap.size w (w1.alloc (.cells #[.int .i64 S.pl.at_.row, .int .i64 S.pl.at_.col] 36)).drew) := HB1.out.drew
   have HX : Hid ((w1.alloc (.cells #[.int .i64 S.pl.at_.row, .int .i64 S.pl.at_.col] 36)).drew.heap[w1.heap.size]? = some (.cells #[.int .i64 S.pl.at_.row, .int .i64 S.pl.at_.col] 36 (0, 0))) := heap_alloc_new w1 _
   refine wp_region_noPanic ?_
   refine wp_region_k (S := fun W : World => Below w.heap.size w W ∧ W.heap[w1.heap.size]? = some (.cells #[.int .i64 S.pl.at_.row, .int .i64 S.pl.at_.col] 36 (0, 0))) 999 (by kernel_rfl) (⟨HB2.out, HX.out⟩) (fun hHeld => ?_)
   refine kSK 0 hHeld ?_
   refine kHK (v := ?_) 1 hHeld ?y2 ?_
   case y2 => (intro W hSw; obtain ⟨y0, _⟩ := (HA.out _ hSw.1).cells; obtain ⟨p0, p1, _⟩ := row2 hSw.2; go_simp; try with_reducible rfl)
   refine kSK 2 hHeld ?_
   refine kSK 3 hHeld ?_
   refine kSK 4 hHeld ?_
   try refine kNK ?_
   refine kHK (v := ?_) 5 hHeld ?y6 ?_
   case y6 => (intro W hSw; obtain ⟨y0, _⟩ := (HA.out _ hSw.1).cells; obtain ⟨p0, p1, _⟩ := row2 hSw.2; go_simp; try with_reducible rfl)
   try refine kNK ?_
   refine kOK 6 fun KQ hKQ => ?_
   go_simp
   go_at_call 89
   refine (HSZ.out _ HB2.out).mono ?_
   rintro e w2 ⟨rfl, hb2⟩
   have HB3 := Lib.hid (Below.later HB2.out hb2 HB2.out.size)
   have HX3 := Lib.hid ((hb2.block _ (block_lt HX.out)).trans HX.out)
   clear hb2
   go_wp2_with fail
   refine hKQ.out _ _ (⟨HB3.out, HX3.out⟩) ?_
   clear hHeld hKQ KQ
   intro hHeld
   try refine kNK ?_
   refine kSK 7 hHeld ?_
   refine kSK 8 hHeld ?_
   refine kSK 9 hHeld ?_
   refine kSK 10 hHeld ?_
   try refine kNK ?_
   refine wpAnyK_done (by kernel_rfl) ?_ _
   refine NoPanic.normal ?_
   by_cases hrow : S.pl.at_.row = (S.D.R : Int) - 1
   · have HR := Lib.hid hrow
     have hbq : (S.pl.at_.row == (S.D.R : Int) - 1) = true := by simp [hrow]
     rw [hbq]
     clear hrow hbq hHeld
     go_upto_region 5 with fail
     have HB4 : Hid (Below w.heap.size w w2.drew) := HB3.out.drew
     have HX4 : Hid (w2.drew.heap[w1.heap.size]? = some (.cells #[.int .i64 S.pl.at_.row, .int .i64 S.pl.at_.col] 36 (0, 0))) := HX3.out
     refine wp_region_noPanic ?_
     refine wp_region_k (S := fun W : World => Below w.heap.size w W ∧ W.heap[w1.heap.size]? = some (.cells #[.int .i64 S.pl.at_.row, .int .i64 S.pl.at_.col] 36 (0, 0))) 7 (by kernel_rfl) (⟨HB4.out, HX4.out⟩) (fun hHeld => ?_)
     refine kSK 0 hHeld ?_
     refine kSK 1 hHeld ?_
     refine kSK 2 hHeld ?_
     refine kTK (v := ?_) 3 [] hHeld ?y4 ?_
     case y4 => (intro W hSw; obtain ⟨y0, _⟩ := (HA.out _ hSw.1).cells; obtain ⟨p0, p1, _⟩ := row2 hSw.2; go_simp; try with_reducible rfl)
     refine kSK 4 hHeld ?_
     try refine kNK ?_
     refine kTK (v := ?_) 5 [6] hHeld ?y6 ?_
     case y6 => (intro W hSw; obtain ⟨y0, _⟩ := (HA.out _ hSw.1).cells; obtain ⟨p0, p1, _⟩ := row2 hSw.2; go_simp; try with_reducible rfl)
     refine kSK 6 hHeld ?_
     try refine kNK ?_
     refine kPK 7 fun KQ hKQ => ?_
     go_simp
     go_at_call 59
     refine (scr_move sp F S ⟨0, S.pl.at_.col⟩ _ (HA.out _ HB4.out).scr).mono ?_
     rintro e w3 ⟨rfl, ht⟩
     have HT := Lib.hid ht
     clear ht
     go_wp2_with fail
     refine hKQ.out _ _ ?_
     clear hKQ KQ
     try refine kNK ?_
     refine wpAnyK_done (by kernel_rfl) ?_ _
     refine NoPanic.normal ?_
     go_wp2_with fail
     go_end0
     exact ⟨rfl, ScrTo.after HB4.out HT.out⟩
   · obtain ⟨y0, y1, y2, y3, _⟩ := (HA.out _ HB3.out).cells
     have HR := Lib.hid hrow
     have hbq : (S.pl.at_.row == (S.D.R : Int) - 1) = false := by simp [hrow]
     rw [hbq]
     clear hrow hbq hHeld
     go_wp2_with (go_at_call 78; refine (scr_step sp F S 1 0 _ (HA.out _ HB3.out).scr).mono ?_; rintro e w3 ⟨rfl, ht⟩; have HT := Lib.hid ht; clear ht)
     go_end0
     exact ⟨rfl, ScrTo.after HB3.out HT.out⟩
theorem told_ok (n : Int) (h0 : 0 ≤ n) (h1 : n < 255) (w : World) : Calls Tryz.prog 112 #[.int .i64 n] w fun e w' => e = .returned (.int .u8 (toldA n).toNat) ∧ w = w' := by
 have hw1 : IntKind.i64.wrap (n + 32) = n + 32 := wrap_in (by omega) (by omega)
 have hT : ((toldA n).toNat : Int) = min (n + 32) 126 := by
  unfold toldA
  rw [UInt8.toNat_ofNat']
  omega
 have HT := Lib.hid hT
 by_cases hn : n + 32 < 126
 · have hm : min (n + 32) 126 = n + 32 := by omega
   have hw2 : IntKind.u8.wrap (n + 32) = n + 32 := by simp [IntKind.wrap, IntKind.bits, IntKind.signed]; omega
   have hlt2 : ¬ (126 : Int) < n + 32 := by omega
   go_enter Tryz.func112, Tryz.ntmps112
   go_wp2_with fail
   go_ret
   exact ⟨rfl, rfl⟩
 · have hm : min (n + 32) 126 = 126 := by omega
   have hge : (126 : Int) ≤ n + 32 := by omega
   go_enter Tryz.func112, Tryz.ntmps112
   go_wp2_with fail
   go_ret
   exact ⟨rfl, rfl⟩
theorem run_dye0 (w : World) : (Instr.index 159 (.agg #[.int .i64 32, .int .i64 8, .int .i64 16, .int .i64 4]) (.int .i64 0)).run Tryz.prog w = .ok (.int .i64 32) w := by kernel_rfl
theorem run_dye1 (w : World) : (Instr.index 159 (.agg #[.int .i64 32, .int .i64 8, .int .i64 16, .int .i64 4]) (.int .i64 1)).run Tryz.prog w = .ok (.int .i64 8) w := by kernel_rfl
theorem run_dye2 (w : World) : (Instr.index 159 (.agg #[.int .i64 32, .int .i64 8, .int .i64 16, .int .i64 4]) (.int .i64 2)).run Tryz.prog w = .ok (.int .i64 16) w := by kernel_rfl
theorem run_dye3 (w : World) : (Instr.index 159 (.agg #[.int .i64 32, .int .i64 8, .int .i64 16, .int .i64 4]) (.int .i64 3)).run Tryz.prog w = .ok (.int .i64 4) w := by kernel_rfl
attribute [local go_sem 3000] run_dye0 run_dye1 run_dye2 run_dye3
def dyesK (n k : Nat) : Int := (if 0 < k ∧ n % 2 = 1 then 32 else 0) + (if 1 < k ∧ n / 2 % 2 = 1 then 8 else 0) + (if 2 < k ∧ n / 4 % 2 = 1 then 16 else 0) + (if 3 < k ∧ n / 8 % 2 = 1 then 4 else 0)
theorem dye_bits : ∀ n : Nat, n < 16 → (((bits .and .u8 (n : Int) 1 == 1) = true → bits .or .i64 (dyesK n 0) 32 = dyesK n 1) ∧ ((bits .and .u8 (n : Int) 1 == 1) = false → dyesK n 0 = dyesK n 1)) ∧ (((bits .and .u8 ((n : Int) / 2) 1 == 1) = true → bits .or .i64 (dyesK n 1) 8 = dyesK n 2) ∧ ((bits .and .u8 ((n : Int) / 2) 1 == 1) = false → dyesK n 1 = dyesK n 2)) ∧ (((bits .and .u8 ((n : Int) / 4) 1 == 1) = true → bits .or .i64 (dyesK n 2) 16 = dyesK n 3) ∧ ((bits .and .u8 ((n : Int) / 4) 1 == 1) = false → dyesK n 2 = dyesK n 3)) ∧ (((bits .and .u8 ((n : Int) / 8) 1 == 1) = true → bits .or .i64 (dyesK n 3) 4 = dyesK n 4) ∧ ((bits .and .u8 ((n : Int) / 8) 1 == 1) = false → dyesK n 3 = dyesK n 4)) := by
 decide +kernel
theorem term_attr {wr w : World} {tp sp qp : Nat} {gd pr : Bool} {a : Int} {V : Value} (hx : wr.heap[tp]? = some (.cells (termB sp qp gd pr a V) 87 (0, 0))) (hK : Keeps (fun k => k = tp) w wr) (a' : Int) : (wr.setCell ⟨tp, 4, none⟩ (.int .i64 a')).heap[tp]? = some (.cells (termB sp qp gd pr a' V) 87 (0, 0)) ∧ Keeps (fun k => k = tp) w (wr.setCell ⟨tp, 4, none⟩ (.int .i64 a')) :=
 ⟨heap_set_same hx 4 (.int .i64 a'), hK.setCell' (p := ⟨tp, 4, none⟩) rfl _⟩
theorem adm_dyes {w : World} {tp sp qp : Nat} {gd pr : Bool} {attr : Int} {V : Value} (h : w.heap[tp]? = some (.cells (termB sp qp gd pr attr V) 87 (0, 0))) (b : Nat) (hb : b < 256) : Calls Tryz.prog 84 #[.pointer (some ⟨tp, 0, none⟩), .int .u8 b] w fun e w' => e = .returned (.tuple #[]) ∧ w'.heap[tp]? = some (.cells (termB sp qp gd pr (if b < 48 ∨ 63 < b then attr else dyesI (b - 48)) V) 87 (0, 0)) ∧ Keeps (fun k => k = tp) w w' := by
 obtain ⟨t0, t1, t2, t3, t4, t5, f2, f3, f4, f5⟩ := row6 h
 have H := Lib.hid h
 by_cases h1 : b < 48
 · have z1 : (b : Int) < 48 := by omega
   have HI := Lib.hid (show (if b < 48 ∨ 63 < b then attr else dyesI (b - 48)) = attr from if_pos (.inl h1))
   rw [HI.out]
   clear h HI
   go_enter Tryz.func84, Tryz.ntmps84
   go_wp2_with fail
   refine bodyPost_ret (results_none rfl _ _ _) rfl ⟨rfl, H.out, Keeps.refl _ _⟩
 · by_cases h2 : 63 < b
   · have z1 : ¬ (b : Int) < 48 := by omega
     have z2 : (63 : Int) < (b : Int) := by omega
     have HI := Lib.hid (show (if b < 48 ∨ 63 < b then attr else dyesI (b - 48)) = attr from if_pos (.inr h2))
     rw [HI.out]
     clear h HI
     go_enter Tryz.func84, Tryz.ntmps84
     go_wp2_with fail
     refine bodyPost_ret (results_none rfl _ _ _) rfl ⟨rfl, H.out, Keeps.refl _ _⟩
   · have z1 : ¬ (b : Int) < 48 := by omega
     have z2 : ¬ (63 : Int) < (b : Int) := by omega
     have hI : (if b < 48 ∨ 63 < b then attr else dyesI (b - 48)) = dyesK (b - 48) 4 := by
      rw [if_neg (by omega)]
      unfold dyesI dyesK
      simp
     have HI := Lib.hid hI
     clear hI
     rw [HI.out]
     clear h HI
     go_enter Tryz.func84, Tryz.ntmps84
     go_wp2_with fail
     go_loopw [16] (fun i wr => ∃ k : Nat, k ≤ 4 ∧ i = .int .i64 k ∧ wr.heap[tp]? = some (.cells (termB sp qp gd pr (dyesK (b - 48) k) V) 87 (0, 0)) ∧ Keeps (fun k => k = tp) w wr) (fun i _ => 4 - (intOf i).toNat)
     case atStart => exact ⟨0, by decide, rfl, heap_set_same H.out 4 (.int .i64 0), (Keeps.refl (fun k => k = tp) w).setCell' (p := ⟨tp, 4, none⟩) rfl _⟩
     case round =>
      clear t0 t1 t2 t3 t4 t5 f2 f3 f4 f5
      obtain ⟨k, hk, rfl, hx, hK⟩ := hrel
      obtain ⟨t0, t1, t2, t3, t4, t5, f2, f3, f4, f5⟩ := row6 hx
      have HX := Lib.hid hx
      have HK := Lib.hid hK
      clear hx hK
      by_cases hlt : k < 4
      · have hkk : k = 0 ∨ k = 1 ∨ k = 2 ∨ k = 3 := by omega
        have hB1 : IntKind.u8.wrap ((b : Int) - 48) = ((b - 48 : Nat) : Int) := by simp [IntKind.wrap, IntKind.bits, IntKind.signed]; omega
        obtain ⟨K, hKK⟩ : ∃ K : Int, K = (k : Int) := ⟨_, rfl⟩
        rw [← hKK]
        rcases hkk with rfl | rfl | rfl | rfl
        · obtain rfl : K = 0 := hKK
          have HD := Lib.hid (dye_bits (b - 48) (by omega)).1
          go_wp2_with fail
          · rename_i hbit
            rw [HD.out.1 hbit]
            exact ⟨⟨1, by decide, rfl, term_attr HX.out HK.out _⟩, by decide⟩
          · rename_i hbit
            rw [HD.out.2 hbit] at HX
            exact ⟨⟨1, by decide, rfl, HX.out, HK.out⟩, by decide⟩
        · obtain rfl : K = 1 := hKK
          have HD := Lib.hid (dye_bits (b - 48) (by omega)).2.1
          go_wp2_with fail
          · rename_i hbit
            rw [HD.out.1 hbit]
            exact ⟨⟨2, by decide, rfl, term_attr HX.out HK.out _⟩, by decide⟩
          · rename_i hbit
            rw [HD.out.2 hbit] at HX
            exact ⟨⟨2, by decide, rfl, HX.out, HK.out⟩, by decide⟩
        · obtain rfl : K = 2 := hKK
          have HD := Lib.hid (dye_bits (b - 48) (by omega)).2.2.1
          go_wp2_with fail
          · rename_i hbit
            rw [HD.out.1 hbit]
            exact ⟨⟨3, by decide, rfl, term_attr HX.out HK.out _⟩, by decide⟩
          · rename_i hbit
            rw [HD.out.2 hbit] at HX
            exact ⟨⟨3, by decide, rfl, HX.out, HK.out⟩, by decide⟩
        · obtain rfl : K = 3 := hKK
          have HD := Lib.hid (dye_bits (b - 48) (by omega)).2.2.2
          go_wp2_with fail
          · rename_i hbit
            rw [HD.out.1 hbit]
            exact ⟨⟨4, by decide, rfl, term_attr HX.out HK.out _⟩, by decide⟩
          · rename_i hbit
            rw [HD.out.2 hbit] at HX
            exact ⟨⟨4, by decide, rfl, HX.out, HK.out⟩, by decide⟩
      · obtain rfl : k = 4 := by omega
        go_wp2_with fail
        go_end0
        exact ⟨rfl, HX.out, HK.out⟩
end
section
attribute [local go_sem] alloc_drewN setCell_drewN World.cell?_alloc_some frozen_alloc_some size_f0 size_f1
theorem ground_8 {w : World} {tp sp qp : Nat} {gd pr : Bool} {attr : Int} {V : Value} {F : Nat → Prop} {S : Vz.Sr} (h : Adm w tp sp qp gd pr attr V F S) : Calls Tryz.prog 53 #[.pointer (some ⟨tp, 0, none⟩), .int .u8 8] w fun e w' => e = .returned (.bool true) ∧ ScrTo w w' sp F (stepS S 0 (-1)) := by
 obtain ⟨t0, t1, t2, t3, _⟩ := h.cells
 have HC := Lib.hid (scr_step sp F S 0 (-1) w h.scr)
 clear h
 go_enter Tryz.func53, Tryz.ntmps53
 go_wp2_with (go_at_call 78; refine HC.out.mono ?_; rintro e w1 ⟨rfl, ht⟩; have HT := Lib.hid ht; clear ht)
 go_ret
 exact ⟨rfl, HT.out⟩
theorem ground_9 {w : World} {tp sp qp : Nat} {gd pr : Bool} {attr : Int} {V : Value} {F : Nat → Prop} {S : Vz.Sr} (h : Adm w tp sp qp gd pr attr V F S) : Calls Tryz.prog 53 #[.pointer (some ⟨tp, 0, none⟩), .int .u8 9] w fun e w' => e = .returned (.bool false) ∧ ScrTo w w' sp F (tabS S 1) := by
 obtain ⟨t0, t1, t2, t3, _⟩ := h.cells
 have HC := Lib.hid (scr_tab sp F S 1 w h.scr (by decide))
 clear h
 go_enter Tryz.func53, Tryz.ntmps53
 go_wp2_with (go_at_call 79; refine HC.out.mono ?_; rintro e w1 ⟨rfl, ht⟩; have HT := Lib.hid ht; clear ht)
 go_ret
 exact ⟨rfl, HT.out⟩
theorem ground_11 {w : World} {tp sp qp : Nat} {gd pr : Bool} {attr : Int} {V : Value} {F : Nat → Prop} {S : Vz.Sr} (h : Adm w tp sp qp gd pr attr V F S) : Calls Tryz.prog 53 #[.pointer (some ⟨tp, 0, none⟩), .int .u8 11] w fun e w' => e = .returned (.bool true) ∧ ScrTo w w' sp F (stepS S (-1) 0) := by
 obtain ⟨t0, t1, t2, t3, _⟩ := h.cells
 have HC := Lib.hid (scr_step sp F S (-1) 0 w h.scr)
 clear h
 go_enter Tryz.func53, Tryz.ntmps53
 go_wp2_with (go_at_call 78; refine HC.out.mono ?_; rintro e w1 ⟨rfl, ht⟩; have HT := Lib.hid ht; clear ht)
 go_ret
 exact ⟨rfl, HT.out⟩
theorem ground_12 {w : World} {tp sp qp : Nat} {gd pr : Bool} {attr : Int} {V : Value} {F : Nat → Prop} {S : Vz.Sr} (h : Adm w tp sp qp gd pr attr V F S) : Calls Tryz.prog 53 #[.pointer (some ⟨tp, 0, none⟩), .int .u8 12] w fun e w' => e = .returned (.bool false) ∧ ScrTo w w' sp F (stepS S 0 1) := by
 obtain ⟨t0, t1, t2, t3, _⟩ := h.cells
 have HC := Lib.hid (scr_step sp F S 0 1 w h.scr)
 clear h
 go_enter Tryz.func53, Tryz.ntmps53
 go_wp2_with (go_at_call 78; refine HC.out.mono ?_; rintro e w1 ⟨rfl, ht⟩; have HT := Lib.hid ht; clear ht)
 go_ret
 exact ⟨rfl, HT.out⟩
theorem ground_13 {w : World} {tp sp qp : Nat} {gd pr : Bool} {attr : Int} {V : Value} {F : Nat → Prop} {S : Vz.Sr} (h : Adm w tp sp qp gd pr attr V F S) : Calls Tryz.prog 53 #[.pointer (some ⟨tp, 0, none⟩), .int .u8 13] w fun e w' => e = .returned (.bool false) ∧ ScrTo w w' sp F (columnS S 0) := by
 obtain ⟨t0, t1, t2, t3, _⟩ := h.cells
 have HC := Lib.hid (adm_column h 0)
 clear h
 go_enter Tryz.func53, Tryz.ntmps53
 go_wp2_with (go_at_call 80; refine HC.out.mono ?_; rintro e w1 ⟨rfl, ht⟩; have HT := Lib.hid ht; clear ht)
 go_ret
 exact ⟨rfl, HT.out⟩
theorem ground_26 {w : World} {tp sp qp : Nat} {gd pr : Bool} {attr : Int} {V : Value} {F : Nat → Prop} {S : Vz.Sr} (h : Adm w tp sp qp gd pr attr V F S) : Calls Tryz.prog 53 #[.pointer (some ⟨tp, 0, none⟩), .int .u8 26] w fun e w' => e = .returned (.bool false) ∧ ScrTo w w' sp F (clearS S pr) := by
 obtain ⟨t0, t1, t2, t3, _⟩ := h.cells
 have HC := Lib.hid (adm_cleared h)
 clear h
 go_enter Tryz.func53, Tryz.ntmps53
 go_wp2_with (go_at_call 35; refine HC.out.mono ?_; rintro e w1 ⟨rfl, ht⟩; have HT := Lib.hid ht; clear ht)
 go_ret
 exact ⟨rfl, HT.out⟩
theorem ground_30 {w : World} {tp sp qp : Nat} {gd pr : Bool} {attr : Int} {V : Value} {F : Nat → Prop} {S : Vz.Sr} (h : Adm w tp sp qp gd pr attr V F S) : Calls Tryz.prog 53 #[.pointer (some ⟨tp, 0, none⟩), .int .u8 30] w fun e w' => e = .returned (.bool false) ∧ ScrTo w w' sp F (moveS S ⟨0, 0⟩) := by
 obtain ⟨t0, t1, t2, t3, _⟩ := h.cells
 have HC := Lib.hid (scr_move sp F S ⟨0, 0⟩ w h.scr)
 clear h
 go_enter Tryz.func53, Tryz.ntmps53
 go_wp2_with (go_at_call 59; refine HC.out.mono ?_; rintro e w1 ⟨rfl, ht⟩; have HT := Lib.hid ht; clear ht)
 go_ret
 exact ⟨rfl, HT.out⟩
theorem ground_10 {w : World} {tp sp qp : Nat} {gd pr : Bool} {attr : Int} {V : Value} {F : Nat → Prop} {S : Vz.Sr} (h : Adm w tp sp qp gd pr attr V F S) : Calls Tryz.prog 53 #[.pointer (some ⟨tp, 0, none⟩), .int .u8 10] w fun e w' => e = .returned (.bool false) ∧ ScrTo w w' sp F (lfeedS S pr) := by
 obtain ⟨t0, t1, t2, t3, _⟩ := h.cells
 have HC := Lib.hid (adm_feed h)
 clear h
 go_enter Tryz.func53, Tryz.ntmps53
 go_wp2_with (go_at_call 81; refine HC.out.mono ?_; rintro e w1 ⟨rfl, ht⟩; have HT := Lib.hid ht; clear ht)
 go_ret
 exact ⟨rfl, HT.out⟩
theorem ground_31 {w : World} {tp sp qp : Nat} {gd pr : Bool} {attr : Int} {V : Value} {F : Nat → Prop} {S : Vz.Sr} (h : Adm w tp sp qp gd pr attr V F S) : Calls Tryz.prog 53 #[.pointer (some ⟨tp, 0, none⟩), .int .u8 31] w fun e w' => e = .returned (.bool false) ∧ ScrTo w w' sp F (lfeedS (columnS S 0) pr) := by
 obtain ⟨t0, t1, t2, t3, _⟩ := h.cells
 have HC := Lib.hid (adm_column h 0)
 have H := Lib.hid h
 clear h
 go_enter Tryz.func53, Tryz.ntmps53
 go_wp2_with (first
  | (go_at_call 80; refine HC.out.mono ?_; rintro e w1 ⟨rfl, ht⟩; obtain ⟨F1, ha, hf, hk⟩ := H.out.to ht; have HA := Lib.hid ha; have HF := Lib.hid hf; have HK := Lib.hid hk; clear ht ha hf hk)
  | (go_at_call 81; refine (adm_feed HA.out).mono ?_; rintro e w2 ⟨rfl, ht⟩; have HT := Lib.hid (ScrTo.link HF.out HK.out ht); clear ht))
 go_ret
 exact ⟨rfl, HT.out⟩
theorem scr_putany (sp : Nat) (F : Nat → Prop) (S : Vz.Sr) (c : Vz.Cl) (g : Bool) (w : World) (h : Scr w sp F S) : Calls Tryz.prog 82 #[.pointer (some ⟨sp, 0, none⟩), .agg #[.int .i32 c.g, .int .i64 c.a, .bool c.gd, .int .i64 c.m], .int .i64 2, .bool g] w fun e w' => e = .returned (.tuple #[]) ∧ ScrTo w w' sp F (putAny S c g) := by
 cases g
 · exact scr_put sp F S c 2 w h
 · exact scr_putg sp F S c 2 w h
theorem pushA_eq (A : Ad) (l : List UInt8) : pushA A l = { A with q := pushQ A.q l, over := pushO A.q l A.over } := by
 unfold pushA pushQ pushO
 split <;> rfl
theorem ground_put {w : World} {tp sp qp : Nat} {gd pr : Bool} {attr : Int} {V : Value} {F : Nat → Prop} {S : Vz.Sr} (h : Adm w tp sp qp gd pr attr V F S) (b : Nat) (hb : 32 ≤ b ∧ b ≤ 126) : Calls Tryz.prog 53 #[.pointer (some ⟨tp, 0, none⟩), .int .u8 b] w fun e w' => e = .returned (.bool false) ∧ ScrTo w w' sp F (putAny S ⟨foldG b, attr, gd, 0⟩ pr) := by
 have HA := Lib.hid (fun W (hb : Below w.heap.size w W) => h.below hb)
 have HG := Lib.hid (fun W => glyph_fold b hb W)
 have e5 : ((b : Int) == 5) = false := by simp; omega
 have e8 : ((b : Int) == 8) = false := by simp; omega
 have e9 : ((b : Int) == 9) = false := by simp; omega
 have e11 : ((b : Int) == 11) = false := by simp; omega
 have e12 : ((b : Int) == 12) = false := by simp; omega
 have e13 : ((b : Int) == 13) = false := by simp; omega
 have e26 : ((b : Int) == 26) = false := by simp; omega
 have e30 : ((b : Int) == 30) = false := by simp; omega
 have e31 : ((b : Int) == 31) = false := by simp; omega
 have e10 : ((b : Int) == 10) = false := by simp; omega
 have z1 : (32 : Int) ≤ (b : Int) := by omega
 have z2 : (b : Int) ≤ 126 := by omega
 have HF : Hid ((if 97 ≤ b ∧ b ≤ 122 then (b : Int) - 32 else (b : Int)) = foldG b) := rfl
 clear h hb
 go_enter Tryz.func53, Tryz.ntmps53
 go_upto_region 25 with fail
 have HB : Hid (Below w.heap.size w w.drew) := (Below.refl _ _).drew
 refine wp_region_noPanic ?_
 refine wp_region_k (S := fun W : World => Below w.heap.size w W) 21 (by kernel_rfl) (HB.out) (fun hHeld => ?_)
 refine kSK 0 hHeld ?_
 refine kSK 1 hHeld ?_
 refine kSK 2 hHeld ?_
 refine kTK (v := ?_) 3 [] hHeld ?y4 ?_
 case y4 => (intro W hSw; obtain ⟨y0, y1, y2, y3, y4, _⟩ := (HA.out _ hSw).cells; go_simp; try with_reducible rfl)
 refine kSK 4 hHeld ?_
 try refine kNK ?_
 refine kSK 6 hHeld ?_
 refine kSK 7 hHeld ?_
 refine kSK 8 hHeld ?_
 refine kTK (v := ?_) 9 [15] hHeld ?y9 ?_
 case y9 => (intro W hSw; obtain ⟨y0, y1, y2, y3, y4, _⟩ := (HA.out _ hSw).cells; go_simp; try with_reducible rfl)
 refine kSK 10 hHeld ?_
 try refine kNK ?_
 refine kSK 11 hHeld ?_
 refine kSK 12 hHeld ?_
 refine kSK 13 hHeld ?_
 refine kTK (v := ?_) 14 [15] hHeld ?y14 ?_
 case y14 => (intro W hSw; obtain ⟨y0, y1, y2, y3, y4, _⟩ := (HA.out _ hSw).cells; go_simp; try with_reducible rfl)
 refine kSK 16 hHeld ?_
 try refine kNK ?_
 refine kSK 17 hHeld ?_
 refine kSK 18 hHeld ?_
 refine kSK 19 hHeld ?_
 refine kTK (v := ?_) 20 [] hHeld ?y19 ?_
 case y19 => (intro W hSw; obtain ⟨y0, y1, y2, y3, y4, _⟩ := (HA.out _ hSw).cells; go_simp; try with_reducible rfl)
 try refine kNK ?_
 refine kOK 5 fun KQ hKQ => ?_
 go_simp
 go_at_call 83
 refine (HG.out _).mono ?_
 rintro e w1 ⟨rfl, hb1⟩
 rw [HF.out]
 have HB1 := Lib.hid (Below.later HB.out hb1 HB.out.size)
 clear hb1
 go_wp2_with fail
 refine hKQ.out _ _ (HB1.out) ?_
 clear hHeld hKQ KQ
 intro hHeld
 try refine kNK ?_
 refine kSK 15 hHeld ?_
 try refine kNK ?_
 refine kPK 21 fun KQ hKQ => ?_
 go_simp
 go_at_call 82
 refine (scr_putany sp F S ⟨foldG b, attr, gd, 0⟩ pr _ (HA.out _ HB1.out).scr).mono ?_
 rintro e w2 ⟨rfl, ht⟩
 have HT := Lib.hid ht
 clear ht
 go_wp2_with fail
 refine hKQ.out _ _ ?_
 clear hKQ KQ
 try refine kNK ?_
 refine wpAnyK_done (by kernel_rfl) ?_ _
 refine NoPanic.normal ?_
 go_wp2_with fail
 go_ret
 exact ⟨rfl, ScrTo.after HB1.out HT.out⟩
theorem ground_none (tp b : Nat) (w : World) (hb : b < 32 ∨ 126 < b) (hn : b ≠ 5 ∧ b ≠ 8 ∧ b ≠ 9 ∧ b ≠ 11 ∧ b ≠ 12 ∧ b ≠ 13 ∧ b ≠ 26 ∧ b ≠ 30 ∧ b ≠ 31 ∧ b ≠ 10) : Calls Tryz.prog 53 #[.pointer (some ⟨tp, 0, none⟩), .int .u8 b] w fun e w' => e = .returned (.bool false) ∧ w = w' := by
 have e5 : ((b : Int) == 5) = false := by simp; omega
 have e8 : ((b : Int) == 8) = false := by simp; omega
 have e9 : ((b : Int) == 9) = false := by simp; omega
 have e11 : ((b : Int) == 11) = false := by simp; omega
 have e12 : ((b : Int) == 12) = false := by simp; omega
 have e13 : ((b : Int) == 13) = false := by simp; omega
 have e26 : ((b : Int) == 26) = false := by simp; omega
 have e30 : ((b : Int) == 30) = false := by simp; omega
 have e31 : ((b : Int) == 31) = false := by simp; omega
 have e10 : ((b : Int) == 10) = false := by simp; omega
 clear hn
 by_cases h1 : b < 32
 · have z1 : ¬ (32 : Int) ≤ (b : Int) := by omega
   clear hb h1
   go_enter Tryz.func53, Tryz.ntmps53
   go_wp2_with fail
   go_ret
   exact ⟨rfl, rfl⟩
 · have z1 : (32 : Int) ≤ (b : Int) := by omega
   have z2 : ¬ (b : Int) ≤ 126 := by omega
   clear hb h1
   go_enter Tryz.func53, Tryz.ntmps53
   go_wp2_with fail
   go_ret
   exact ⟨rfl, rfl⟩
theorem ground_push {w : World} {tp sp qp lb fr : Nat} {gd pr : Bool} {attr : Int} {V : Value} {q : List UInt8} {over : Bool} (h : w.heap[tp]? = some (.cells (termB sp qp gd pr attr V) 87 (0, 0))) (hq : QueAt w qp lb fr q over) : Calls Tryz.prog 53 #[.pointer (some ⟨tp, 0, none⟩), .int .u8 5] w fun e w' => e = .returned (.bool false) ∧ QueTo w w' qp lb (pushQ q [65, 68, 77, 13]) (pushO q [65, 68, 77, 13] over) := by
 obtain ⟨t0, t1, _⟩ := row6 h
 have hb := below1 w (.cells #[.string ⟨[65, 68, 77, 13].toArray⟩] 9)
 have hl := hq.lt
 have HP := Lib.hid (que_push qp lb fr q over w.heap.size [65, 68, 77, 13] _ (hq.below hb) (heap_alloc_new w _) (by omega) (by omega) (by decide))
 have HB := Lib.hid hb
 clear h hq hb
 go_enter Tryz.func53, Tryz.ntmps53
 go_wp2_with (go_at_call 77; refine HP.out.mono ?_; rintro e w1 ⟨rfl, ht⟩; have HT := Lib.hid (QueTo.after HB.out ht); clear ht)
 go_ret
 exact ⟨rfl, HT.out⟩
end
section
open Go Go.RowKit
def swOp (o : Oper) (a : Act) : Option Value :=
 match o.guard, o.op with
 | none, .binOp .eql 5 x y 5 => match a.eval x, a.eval y with
   | .int .u8 m, .int .u8 n => some (.bool (decide (m = n)))
   | _, _ => none
 | none, .assign x => some (a.eval x)
 | none, .move x => some (a.eval x)
 | _, _ => none
def swOps : List Oper → Act → Option Act
 | [], a => some a
 | o :: l, a => match swOp o a with
   | some v => swOps l (a.put o.dst v)
   | none => none
def sw : Code → Act → Option (Exit × Act)
 | .region _ ops false, a => match swOps ops.toList a with
   | some a' => some (.normal, a')
   | none => none
 | .seq x y, a => match sw x a with
   | some (.normal, a') => sw y a'
   | r => r
 | .cond c x y, a => match a.eval c with
   | .bool true => sw x a
   | .bool false => sw y a
   | _ => none
 | .block k x, a => match sw x a with
   | some (.exit j, a') => if j = k then some (.normal, a') else some (.exit j, a')
   | r => r
 | .exit k, a => some (.exit k, a)
 | .skip, a => some (.normal, a)
 | _, _ => none
theorem swOp_sound {o : Oper} {a : Act} {v : Value} (h : swOp o a = some v) (w : World) : o.guard = none ∧ (execOp a.eval o).run Tryz.prog w = .ok (.value v) w := by
 unfold swOp at h
 split at h
 · rename_i hg ho
   refine ⟨hg, ?_⟩
   split at h
   · rename_i m n hx hy
     injection h with h
     subst h
     have hu : Tryz.prog.underlying 5 = _ := Tryz.underlying5
     unfold execOp
     rw [ho]
     simp only [hx, hy]
     simp [go_sem, eqGuard]
     rfl
   · cases h
 · rename_i hg ho
   injection h with h
   subst h
   exact ⟨hg, by simp [execOp, ho, go_sem]⟩
 · rename_i hg ho
   injection h with h
   subst h
   exact ⟨hg, by simp [execOp, ho, go_sem]⟩
 · cases h
theorem swOps_sound {ops : Array Oper} {Q : Exit → Act → World → Prop} {w : World} : ∀ (l : List Oper) (a a' : Act), swOps l a = some a' → Q .normal a' w → wpList Tryz.prog ops Q l a w
 | [], a, a', h, hq => by
   unfold swOps at h
   injection h with h
   subst h
   exact wpList_nil hq
 | o :: l, a, a', h, hq => by
   unfold swOps at h
   split at h
   · rename_i v hv
     obtain ⟨hg, hr⟩ := swOp_sound hv w
     refine wpList_plain hg fun K hK => ?_
     unfold Oper.wp
     rw [hr]
     exact hK _ _ (swOps_sound l _ a' h hq)
   · cases h
theorem sw_sound {w : World} : ∀ (c : Code) (Q : Exit → Act → World → Prop) (a a' : Act) (e : Exit), sw c a = some (e, a') → Q e a' w → c.wp Tryz.prog Q a w := by
 intro c
 induction c with
 | region id ops d =>
   intro Q a a' e h hq
   cases d
   · simp only [sw] at h
     split at h
     · rename_i a2 h2
       injection h with h
       injection h with h3 h4
       subst h3; subst h4
       exact wp_region_list (swOps_sound _ _ _ h2 hq)
     · cases h
   · simp [sw] at h
 | seq x y ihx ihy =>
   intro Q a a' e h hq
   simp only [sw] at h
   refine wp_seq ?_
   split at h
   · rename_i a2 h2
     exact ihx _ a a2 .normal h2 (ihy Q a2 a' e h hq)
   · rename_i hn
     refine ihx _ a a' e h ?_
     cases e with
     | normal => exact absurd h (hn a')
     | _ => exact hq
 | cond c x y ihx ihy =>
   intro Q a a' e h hq
   simp only [sw] at h
   split at h
   · rename_i hc
     exact wp_cond_true hc (ihx Q a a' e h hq)
   · rename_i hc
     exact wp_cond_false hc (ihy Q a a' e h hq)
   · cases h
 | block k x ih =>
   intro Q a a' e h hq
   simp only [sw] at h
   refine wp_block ?_
   split at h
   · rename_i j a2 h2
     split at h
     · rename_i hj
       injection h with h
       injection h with h3 h4
       subst h3; subst h4; subst hj
       exact ih _ a a2 _ h2 (by simpa [Exit.inBlock] using hq)
     · rename_i hj
       injection h with h
       injection h with h3 h4
       subst h3; subst h4
       exact ih _ a a2 _ h2 (by simpa [Exit.inBlock, hj] using hq)
   · rename_i hn
     refine ih _ a a' e h ?_
     cases e with
     | exit j => exact absurd h (hn j a')
     | _ => exact hq
 | exit k =>
   intro Q a a' e h hq
   simp only [sw] at h
   injection h with h
   injection h with h3 h4
   subst h3; subst h4
   exact wp_exit hq
 | skip =>
   intro Q a a' e h hq
   simp only [sw] at h
   injection h with h
   injection h with h3 h4
   subst h3; subst h4
   exact wp_skip hq
 | _ => intro Q a a' e h hq; simp [sw] at h
end
end Go.Proofs.YtncgigapgklhcaaGreatDoor
